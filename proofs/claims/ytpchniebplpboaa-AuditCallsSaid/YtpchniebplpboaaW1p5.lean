/- Written by a program (wip/gen): the walks: each Go function returns what its plain function computes. -/
import Derived.Test.YtpchniebplpboaaProg
import Derived.Test.YtpchniebplpboaaF1
import Derived.Test.YtpchniebplpboaaSq
import Derived.Test.YtpchniebplpboaaPart
import Derived.Test.YtpchniebplpboaaO1
import Derived.Test.YtpchniebplpboaaW1p4
set_option linter.unusedSimpArgs false
namespace Go.Proofs.Ytpchniebplpboaa
open Go.Sx
set_option linter.unusedVariables false
set_option maxRecDepth 10000
set_option maxHeartbeats 4000000
theorem audit_runs_right_ok (w : World) (v0 : Value) (S0 : List Nat) (p0 : audit_runs) (p1 : api_Entry) (r : Bool × audit_runs) (hF : audit_runs_right p0 p1 = some r)
    (hst : St w (fp [itI R_t69 [v0] S0 p0]) w [itI R_t69 [v0] S0 p0]) :
    Calls Try.prog 66 [v0, .agg [I p1.What, I p1.Task, I p1.From, I p1.Cmd, I p1.Tag, I p1.Event, I p1.Hook, I p1.Prog, I p1.Version, I p1.Pc, I p1.Item.Map, I p1.Item.Op, U p1.Item.Key, U p1.Item.Val, I p1.Res.E, .bool p1.Res.Found, U p1.Res.Val, .bool p1.Res.Out, U p1.Res.OutKey, U p1.Res.OutVal, U p1.Val, I p1.E].toArray].toArray w (fun e w' => ∃ (s0 : List Nat), e = .returned (.bool r.1) ∧ St w (fp [itI R_t69 [v0] S0 p0]) w' [itI R_t69 [v0] s0 r.2]) := by
 refine CW.start (N := 103) Try.func66 rfl rfl rfl ?_
 obtain ⟨b1, rfl⟩ := hst.fptr 0 rfl
 refine rg ?_
 refine OW.box hst rfl rfl rfl rfl [I p1.What, I p1.Task, I p1.From, I p1.Cmd, I p1.Tag, I p1.Event, I p1.Hook, I p1.Prog, I p1.Version, I p1.Pc, I p1.Item.Map, I p1.Item.Op, U p1.Item.Key, U p1.Item.Val, I p1.Res.E, .bool p1.Res.Found, U p1.Res.Val, .bool p1.Res.Out, U p1.Res.OutKey, U p1.Res.OutVal, U p1.Val, I p1.E] rfl ?_
 intro b4 w5 hst
 refine pu 1 [] (nx (CW.seq ?_))
 obtain ⟨v6, S7, v8, S9, hst⟩ := hst.openQ2 0 rfl rfl rfl
 obtain ⟨r10, rfl, hst⟩ := hst.toMF1 2 rfl
 obtain ⟨r11, rfl, hst⟩ := hst.toMF1 3 rfl
 have hst : St _ _ _ [blkI b1 96 [.map (some r10), .map (some r11), I p0.last], _, _, _] := hst
 refine CW.plan (by kernel_rfl) ?_
 intro w17 hch18
 have hst := hst.same hch18
 refine OA.pure [0, 1, 2] [(11, .pointer (some ⟨b1, 1, none⟩))] (by kernel_rfl) ?_
 refine OA.ld (i := 3) rfl (by kernel_rfl) rfl rfl rfl (by kernel_rfl) (hst.blk 0 rfl rfl) ?_
 refine OA.pure [4] [(13, .pointer (some ⟨b4, 1, none⟩))] (by kernel_rfl) ?_
 refine OA.ld (i := 5) rfl (by kernel_rfl) rfl rfl rfl (by kernel_rfl) (hst.blk 1 rfl rfl) ?_
 refine OA.sees (i := 6) (v := .tuple [.agg [I ((mget p0.in_ p1.Task).getD (api_Entry.mk 0 0 0 0 0 0 0 0 0 0 (api_Item.mk 0 0 0 0) (api_Res.mk 0 false 0 false 0 0) 0 0)).What, I ((mget p0.in_ p1.Task).getD (api_Entry.mk 0 0 0 0 0 0 0 0 0 0 (api_Item.mk 0 0 0 0) (api_Res.mk 0 false 0 false 0 0) 0 0)).Task, I ((mget p0.in_ p1.Task).getD (api_Entry.mk 0 0 0 0 0 0 0 0 0 0 (api_Item.mk 0 0 0 0) (api_Res.mk 0 false 0 false 0 0) 0 0)).From, I ((mget p0.in_ p1.Task).getD (api_Entry.mk 0 0 0 0 0 0 0 0 0 0 (api_Item.mk 0 0 0 0) (api_Res.mk 0 false 0 false 0 0) 0 0)).Cmd, I ((mget p0.in_ p1.Task).getD (api_Entry.mk 0 0 0 0 0 0 0 0 0 0 (api_Item.mk 0 0 0 0) (api_Res.mk 0 false 0 false 0 0) 0 0)).Tag, I ((mget p0.in_ p1.Task).getD (api_Entry.mk 0 0 0 0 0 0 0 0 0 0 (api_Item.mk 0 0 0 0) (api_Res.mk 0 false 0 false 0 0) 0 0)).Event, I ((mget p0.in_ p1.Task).getD (api_Entry.mk 0 0 0 0 0 0 0 0 0 0 (api_Item.mk 0 0 0 0) (api_Res.mk 0 false 0 false 0 0) 0 0)).Hook, I ((mget p0.in_ p1.Task).getD (api_Entry.mk 0 0 0 0 0 0 0 0 0 0 (api_Item.mk 0 0 0 0) (api_Res.mk 0 false 0 false 0 0) 0 0)).Prog, I ((mget p0.in_ p1.Task).getD (api_Entry.mk 0 0 0 0 0 0 0 0 0 0 (api_Item.mk 0 0 0 0) (api_Res.mk 0 false 0 false 0 0) 0 0)).Version, I ((mget p0.in_ p1.Task).getD (api_Entry.mk 0 0 0 0 0 0 0 0 0 0 (api_Item.mk 0 0 0 0) (api_Res.mk 0 false 0 false 0 0) 0 0)).Pc, I ((mget p0.in_ p1.Task).getD (api_Entry.mk 0 0 0 0 0 0 0 0 0 0 (api_Item.mk 0 0 0 0) (api_Res.mk 0 false 0 false 0 0) 0 0)).Item.Map, I ((mget p0.in_ p1.Task).getD (api_Entry.mk 0 0 0 0 0 0 0 0 0 0 (api_Item.mk 0 0 0 0) (api_Res.mk 0 false 0 false 0 0) 0 0)).Item.Op, U ((mget p0.in_ p1.Task).getD (api_Entry.mk 0 0 0 0 0 0 0 0 0 0 (api_Item.mk 0 0 0 0) (api_Res.mk 0 false 0 false 0 0) 0 0)).Item.Key, U ((mget p0.in_ p1.Task).getD (api_Entry.mk 0 0 0 0 0 0 0 0 0 0 (api_Item.mk 0 0 0 0) (api_Res.mk 0 false 0 false 0 0) 0 0)).Item.Val, I ((mget p0.in_ p1.Task).getD (api_Entry.mk 0 0 0 0 0 0 0 0 0 0 (api_Item.mk 0 0 0 0) (api_Res.mk 0 false 0 false 0 0) 0 0)).Res.E, .bool ((mget p0.in_ p1.Task).getD (api_Entry.mk 0 0 0 0 0 0 0 0 0 0 (api_Item.mk 0 0 0 0) (api_Res.mk 0 false 0 false 0 0) 0 0)).Res.Found, U ((mget p0.in_ p1.Task).getD (api_Entry.mk 0 0 0 0 0 0 0 0 0 0 (api_Item.mk 0 0 0 0) (api_Res.mk 0 false 0 false 0 0) 0 0)).Res.Val, .bool ((mget p0.in_ p1.Task).getD (api_Entry.mk 0 0 0 0 0 0 0 0 0 0 (api_Item.mk 0 0 0 0) (api_Res.mk 0 false 0 false 0 0) 0 0)).Res.Out, U ((mget p0.in_ p1.Task).getD (api_Entry.mk 0 0 0 0 0 0 0 0 0 0 (api_Item.mk 0 0 0 0) (api_Res.mk 0 false 0 false 0 0) 0 0)).Res.OutKey, U ((mget p0.in_ p1.Task).getD (api_Entry.mk 0 0 0 0 0 0 0 0 0 0 (api_Item.mk 0 0 0 0) (api_Res.mk 0 false 0 false 0 0) 0 0)).Res.OutVal, U ((mget p0.in_ p1.Task).getD (api_Entry.mk 0 0 0 0 0 0 0 0 0 0 (api_Item.mk 0 0 0 0) (api_Res.mk 0 false 0 false 0 0) 0 0)).Val, I ((mget p0.in_ p1.Task).getD (api_Entry.mk 0 0 0 0 0 0 0 0 0 0 (api_Item.mk 0 0 0 0) (api_Res.mk 0 false 0 false 0 0) 0 0)).E].toArray, .bool (mget p0.in_ p1.Task).isSome].toArray) (MapIs (fun x => .agg (enc_api_Entry x).toArray) r11 p0.in_) rfl (by kernel_rfl) rfl rfl rfl rfl (fun a w ha h => look2F (tk := 3) (te := 48) (kd := .i64) (val := fun x => .agg (enc_api_Entry x).toArray) (api_Entry.mk 0 0 0 0 0 0 0 0 0 0 (api_Item.mk 0 0 0 0) (api_Res.mk 0 false 0 false 0 0) 0 0) h rfl rfl rfl (by kernel_rfl) (by kernel_rfl) (by kernel_rfl) a ha) (hst.mapIs 3 rfl) ?_
 refine OA.pure [7, 8, 9] [(16, .agg [I ((mget p0.in_ p1.Task).getD (api_Entry.mk 0 0 0 0 0 0 0 0 0 0 (api_Item.mk 0 0 0 0) (api_Res.mk 0 false 0 false 0 0) 0 0)).What, I ((mget p0.in_ p1.Task).getD (api_Entry.mk 0 0 0 0 0 0 0 0 0 0 (api_Item.mk 0 0 0 0) (api_Res.mk 0 false 0 false 0 0) 0 0)).Task, I ((mget p0.in_ p1.Task).getD (api_Entry.mk 0 0 0 0 0 0 0 0 0 0 (api_Item.mk 0 0 0 0) (api_Res.mk 0 false 0 false 0 0) 0 0)).From, I ((mget p0.in_ p1.Task).getD (api_Entry.mk 0 0 0 0 0 0 0 0 0 0 (api_Item.mk 0 0 0 0) (api_Res.mk 0 false 0 false 0 0) 0 0)).Cmd, I ((mget p0.in_ p1.Task).getD (api_Entry.mk 0 0 0 0 0 0 0 0 0 0 (api_Item.mk 0 0 0 0) (api_Res.mk 0 false 0 false 0 0) 0 0)).Tag, I ((mget p0.in_ p1.Task).getD (api_Entry.mk 0 0 0 0 0 0 0 0 0 0 (api_Item.mk 0 0 0 0) (api_Res.mk 0 false 0 false 0 0) 0 0)).Event, I ((mget p0.in_ p1.Task).getD (api_Entry.mk 0 0 0 0 0 0 0 0 0 0 (api_Item.mk 0 0 0 0) (api_Res.mk 0 false 0 false 0 0) 0 0)).Hook, I ((mget p0.in_ p1.Task).getD (api_Entry.mk 0 0 0 0 0 0 0 0 0 0 (api_Item.mk 0 0 0 0) (api_Res.mk 0 false 0 false 0 0) 0 0)).Prog, I ((mget p0.in_ p1.Task).getD (api_Entry.mk 0 0 0 0 0 0 0 0 0 0 (api_Item.mk 0 0 0 0) (api_Res.mk 0 false 0 false 0 0) 0 0)).Version, I ((mget p0.in_ p1.Task).getD (api_Entry.mk 0 0 0 0 0 0 0 0 0 0 (api_Item.mk 0 0 0 0) (api_Res.mk 0 false 0 false 0 0) 0 0)).Pc, I ((mget p0.in_ p1.Task).getD (api_Entry.mk 0 0 0 0 0 0 0 0 0 0 (api_Item.mk 0 0 0 0) (api_Res.mk 0 false 0 false 0 0) 0 0)).Item.Map, I ((mget p0.in_ p1.Task).getD (api_Entry.mk 0 0 0 0 0 0 0 0 0 0 (api_Item.mk 0 0 0 0) (api_Res.mk 0 false 0 false 0 0) 0 0)).Item.Op, U ((mget p0.in_ p1.Task).getD (api_Entry.mk 0 0 0 0 0 0 0 0 0 0 (api_Item.mk 0 0 0 0) (api_Res.mk 0 false 0 false 0 0) 0 0)).Item.Key, U ((mget p0.in_ p1.Task).getD (api_Entry.mk 0 0 0 0 0 0 0 0 0 0 (api_Item.mk 0 0 0 0) (api_Res.mk 0 false 0 false 0 0) 0 0)).Item.Val, I ((mget p0.in_ p1.Task).getD (api_Entry.mk 0 0 0 0 0 0 0 0 0 0 (api_Item.mk 0 0 0 0) (api_Res.mk 0 false 0 false 0 0) 0 0)).Res.E, .bool ((mget p0.in_ p1.Task).getD (api_Entry.mk 0 0 0 0 0 0 0 0 0 0 (api_Item.mk 0 0 0 0) (api_Res.mk 0 false 0 false 0 0) 0 0)).Res.Found, U ((mget p0.in_ p1.Task).getD (api_Entry.mk 0 0 0 0 0 0 0 0 0 0 (api_Item.mk 0 0 0 0) (api_Res.mk 0 false 0 false 0 0) 0 0)).Res.Val, .bool ((mget p0.in_ p1.Task).getD (api_Entry.mk 0 0 0 0 0 0 0 0 0 0 (api_Item.mk 0 0 0 0) (api_Res.mk 0 false 0 false 0 0) 0 0)).Res.Out, U ((mget p0.in_ p1.Task).getD (api_Entry.mk 0 0 0 0 0 0 0 0 0 0 (api_Item.mk 0 0 0 0) (api_Res.mk 0 false 0 false 0 0) 0 0)).Res.OutKey, U ((mget p0.in_ p1.Task).getD (api_Entry.mk 0 0 0 0 0 0 0 0 0 0 (api_Item.mk 0 0 0 0) (api_Res.mk 0 false 0 false 0 0) 0 0)).Res.OutVal, U ((mget p0.in_ p1.Task).getD (api_Entry.mk 0 0 0 0 0 0 0 0 0 0 (api_Item.mk 0 0 0 0) (api_Res.mk 0 false 0 false 0 0) 0 0)).Val, I ((mget p0.in_ p1.Task).getD (api_Entry.mk 0 0 0 0 0 0 0 0 0 0 (api_Item.mk 0 0 0 0) (api_Res.mk 0 false 0 false 0 0) 0 0)).E].toArray), (17, .bool (mget p0.in_ p1.Task).isSome)] (by kernel_rfl) ?_
 refine OA.act (i := 10) [6, 5, 3] (by kernel_rfl) rfl rfl (by kernel_rfl) (by kernel_rfl) ?_
 refine OW.alloc hst rfl rfl rfl [I 0, I 0, I 0, I 0, I 0, I 0, I 0, I 0, I 0, I 0, I 0, I 0, U 0, U 0, I 0, .bool false, U 0, .bool false, U 0, U 0, U 0, I 0] (by kernel_rfl) ?_
 intro b19 w20 hst
 refine OA.next ⟨(hst.mapIs 3 rfl), (hst.blk 1 rfl rfl), (hst.blk 0 rfl rfl), trivial⟩ ?_
 refine OA.act (i := 11) [] (by kernel_rfl) rfl rfl (by kernel_rfl) (by kernel_rfl) ?_
 refine OW.stB hst 4 rfl rfl rfl rfl rfl (by kernel_rfl) rfl rfl [I ((mget p0.in_ p1.Task).getD (api_Entry.mk 0 0 0 0 0 0 0 0 0 0 (api_Item.mk 0 0 0 0) (api_Res.mk 0 false 0 false 0 0) 0 0)).What, I ((mget p0.in_ p1.Task).getD (api_Entry.mk 0 0 0 0 0 0 0 0 0 0 (api_Item.mk 0 0 0 0) (api_Res.mk 0 false 0 false 0 0) 0 0)).Task, I ((mget p0.in_ p1.Task).getD (api_Entry.mk 0 0 0 0 0 0 0 0 0 0 (api_Item.mk 0 0 0 0) (api_Res.mk 0 false 0 false 0 0) 0 0)).From, I ((mget p0.in_ p1.Task).getD (api_Entry.mk 0 0 0 0 0 0 0 0 0 0 (api_Item.mk 0 0 0 0) (api_Res.mk 0 false 0 false 0 0) 0 0)).Cmd, I ((mget p0.in_ p1.Task).getD (api_Entry.mk 0 0 0 0 0 0 0 0 0 0 (api_Item.mk 0 0 0 0) (api_Res.mk 0 false 0 false 0 0) 0 0)).Tag, I ((mget p0.in_ p1.Task).getD (api_Entry.mk 0 0 0 0 0 0 0 0 0 0 (api_Item.mk 0 0 0 0) (api_Res.mk 0 false 0 false 0 0) 0 0)).Event, I ((mget p0.in_ p1.Task).getD (api_Entry.mk 0 0 0 0 0 0 0 0 0 0 (api_Item.mk 0 0 0 0) (api_Res.mk 0 false 0 false 0 0) 0 0)).Hook, I ((mget p0.in_ p1.Task).getD (api_Entry.mk 0 0 0 0 0 0 0 0 0 0 (api_Item.mk 0 0 0 0) (api_Res.mk 0 false 0 false 0 0) 0 0)).Prog, I ((mget p0.in_ p1.Task).getD (api_Entry.mk 0 0 0 0 0 0 0 0 0 0 (api_Item.mk 0 0 0 0) (api_Res.mk 0 false 0 false 0 0) 0 0)).Version, I ((mget p0.in_ p1.Task).getD (api_Entry.mk 0 0 0 0 0 0 0 0 0 0 (api_Item.mk 0 0 0 0) (api_Res.mk 0 false 0 false 0 0) 0 0)).Pc, I ((mget p0.in_ p1.Task).getD (api_Entry.mk 0 0 0 0 0 0 0 0 0 0 (api_Item.mk 0 0 0 0) (api_Res.mk 0 false 0 false 0 0) 0 0)).Item.Map, I ((mget p0.in_ p1.Task).getD (api_Entry.mk 0 0 0 0 0 0 0 0 0 0 (api_Item.mk 0 0 0 0) (api_Res.mk 0 false 0 false 0 0) 0 0)).Item.Op, U ((mget p0.in_ p1.Task).getD (api_Entry.mk 0 0 0 0 0 0 0 0 0 0 (api_Item.mk 0 0 0 0) (api_Res.mk 0 false 0 false 0 0) 0 0)).Item.Key, U ((mget p0.in_ p1.Task).getD (api_Entry.mk 0 0 0 0 0 0 0 0 0 0 (api_Item.mk 0 0 0 0) (api_Res.mk 0 false 0 false 0 0) 0 0)).Item.Val, I ((mget p0.in_ p1.Task).getD (api_Entry.mk 0 0 0 0 0 0 0 0 0 0 (api_Item.mk 0 0 0 0) (api_Res.mk 0 false 0 false 0 0) 0 0)).Res.E, .bool ((mget p0.in_ p1.Task).getD (api_Entry.mk 0 0 0 0 0 0 0 0 0 0 (api_Item.mk 0 0 0 0) (api_Res.mk 0 false 0 false 0 0) 0 0)).Res.Found, U ((mget p0.in_ p1.Task).getD (api_Entry.mk 0 0 0 0 0 0 0 0 0 0 (api_Item.mk 0 0 0 0) (api_Res.mk 0 false 0 false 0 0) 0 0)).Res.Val, .bool ((mget p0.in_ p1.Task).getD (api_Entry.mk 0 0 0 0 0 0 0 0 0 0 (api_Item.mk 0 0 0 0) (api_Res.mk 0 false 0 false 0 0) 0 0)).Res.Out, U ((mget p0.in_ p1.Task).getD (api_Entry.mk 0 0 0 0 0 0 0 0 0 0 (api_Item.mk 0 0 0 0) (api_Res.mk 0 false 0 false 0 0) 0 0)).Res.OutKey, U ((mget p0.in_ p1.Task).getD (api_Entry.mk 0 0 0 0 0 0 0 0 0 0 (api_Item.mk 0 0 0 0) (api_Res.mk 0 false 0 false 0 0) 0 0)).Res.OutVal, U ((mget p0.in_ p1.Task).getD (api_Entry.mk 0 0 0 0 0 0 0 0 0 0 (api_Item.mk 0 0 0 0) (api_Res.mk 0 false 0 false 0 0) 0 0)).Val, I ((mget p0.in_ p1.Task).getD (api_Entry.mk 0 0 0 0 0 0 0 0 0 0 (api_Item.mk 0 0 0 0) (api_Res.mk 0 false 0 false 0 0) 0 0)).E] rfl ?_
 intro w21 hst
 refine OA.next trivial ?_
 refine OA.act (i := 12) [] (by kernel_rfl) rfl rfl (by kernel_rfl) (by kernel_rfl) ?_
 refine pu 1 [(6, .bool (mget p0.in_ p1.Task).isSome)] (OA.next trivial ?_)
 refine OA.fin (by kernel_rfl) (by kernel_rfl) (QW.next (CW.seq ?_))
 refine CW.plan (by kernel_rfl) ?_
 intro w27 hch28
 have hst := hst.same hch28
 refine OA.pure [0, 1, 2] [(20, Pt b1)] (by kernel_rfl) ?_
 refine OA.ld (i := 3) rfl (by kernel_rfl) rfl rfl rfl (by kernel_rfl) (hst.blk 0 rfl rfl) ?_
 refine OA.pure [4] [(22, .pointer (some ⟨b4, 6, none⟩))] (by kernel_rfl) ?_
 refine OA.ld (i := 5) rfl (by kernel_rfl) rfl rfl rfl (by kernel_rfl) (hst.blk 1 rfl rfl) ?_
 refine OA.sees (i := 6) (v := .agg [I ((mget p0.at_ p1.Hook).getD (api_Entry.mk 0 0 0 0 0 0 0 0 0 0 (api_Item.mk 0 0 0 0) (api_Res.mk 0 false 0 false 0 0) 0 0)).What, I ((mget p0.at_ p1.Hook).getD (api_Entry.mk 0 0 0 0 0 0 0 0 0 0 (api_Item.mk 0 0 0 0) (api_Res.mk 0 false 0 false 0 0) 0 0)).Task, I ((mget p0.at_ p1.Hook).getD (api_Entry.mk 0 0 0 0 0 0 0 0 0 0 (api_Item.mk 0 0 0 0) (api_Res.mk 0 false 0 false 0 0) 0 0)).From, I ((mget p0.at_ p1.Hook).getD (api_Entry.mk 0 0 0 0 0 0 0 0 0 0 (api_Item.mk 0 0 0 0) (api_Res.mk 0 false 0 false 0 0) 0 0)).Cmd, I ((mget p0.at_ p1.Hook).getD (api_Entry.mk 0 0 0 0 0 0 0 0 0 0 (api_Item.mk 0 0 0 0) (api_Res.mk 0 false 0 false 0 0) 0 0)).Tag, I ((mget p0.at_ p1.Hook).getD (api_Entry.mk 0 0 0 0 0 0 0 0 0 0 (api_Item.mk 0 0 0 0) (api_Res.mk 0 false 0 false 0 0) 0 0)).Event, I ((mget p0.at_ p1.Hook).getD (api_Entry.mk 0 0 0 0 0 0 0 0 0 0 (api_Item.mk 0 0 0 0) (api_Res.mk 0 false 0 false 0 0) 0 0)).Hook, I ((mget p0.at_ p1.Hook).getD (api_Entry.mk 0 0 0 0 0 0 0 0 0 0 (api_Item.mk 0 0 0 0) (api_Res.mk 0 false 0 false 0 0) 0 0)).Prog, I ((mget p0.at_ p1.Hook).getD (api_Entry.mk 0 0 0 0 0 0 0 0 0 0 (api_Item.mk 0 0 0 0) (api_Res.mk 0 false 0 false 0 0) 0 0)).Version, I ((mget p0.at_ p1.Hook).getD (api_Entry.mk 0 0 0 0 0 0 0 0 0 0 (api_Item.mk 0 0 0 0) (api_Res.mk 0 false 0 false 0 0) 0 0)).Pc, I ((mget p0.at_ p1.Hook).getD (api_Entry.mk 0 0 0 0 0 0 0 0 0 0 (api_Item.mk 0 0 0 0) (api_Res.mk 0 false 0 false 0 0) 0 0)).Item.Map, I ((mget p0.at_ p1.Hook).getD (api_Entry.mk 0 0 0 0 0 0 0 0 0 0 (api_Item.mk 0 0 0 0) (api_Res.mk 0 false 0 false 0 0) 0 0)).Item.Op, U ((mget p0.at_ p1.Hook).getD (api_Entry.mk 0 0 0 0 0 0 0 0 0 0 (api_Item.mk 0 0 0 0) (api_Res.mk 0 false 0 false 0 0) 0 0)).Item.Key, U ((mget p0.at_ p1.Hook).getD (api_Entry.mk 0 0 0 0 0 0 0 0 0 0 (api_Item.mk 0 0 0 0) (api_Res.mk 0 false 0 false 0 0) 0 0)).Item.Val, I ((mget p0.at_ p1.Hook).getD (api_Entry.mk 0 0 0 0 0 0 0 0 0 0 (api_Item.mk 0 0 0 0) (api_Res.mk 0 false 0 false 0 0) 0 0)).Res.E, .bool ((mget p0.at_ p1.Hook).getD (api_Entry.mk 0 0 0 0 0 0 0 0 0 0 (api_Item.mk 0 0 0 0) (api_Res.mk 0 false 0 false 0 0) 0 0)).Res.Found, U ((mget p0.at_ p1.Hook).getD (api_Entry.mk 0 0 0 0 0 0 0 0 0 0 (api_Item.mk 0 0 0 0) (api_Res.mk 0 false 0 false 0 0) 0 0)).Res.Val, .bool ((mget p0.at_ p1.Hook).getD (api_Entry.mk 0 0 0 0 0 0 0 0 0 0 (api_Item.mk 0 0 0 0) (api_Res.mk 0 false 0 false 0 0) 0 0)).Res.Out, U ((mget p0.at_ p1.Hook).getD (api_Entry.mk 0 0 0 0 0 0 0 0 0 0 (api_Item.mk 0 0 0 0) (api_Res.mk 0 false 0 false 0 0) 0 0)).Res.OutKey, U ((mget p0.at_ p1.Hook).getD (api_Entry.mk 0 0 0 0 0 0 0 0 0 0 (api_Item.mk 0 0 0 0) (api_Res.mk 0 false 0 false 0 0) 0 0)).Res.OutVal, U ((mget p0.at_ p1.Hook).getD (api_Entry.mk 0 0 0 0 0 0 0 0 0 0 (api_Item.mk 0 0 0 0) (api_Res.mk 0 false 0 false 0 0) 0 0)).Val, I ((mget p0.at_ p1.Hook).getD (api_Entry.mk 0 0 0 0 0 0 0 0 0 0 (api_Item.mk 0 0 0 0) (api_Res.mk 0 false 0 false 0 0) 0 0)).E].toArray) (MapIs (fun x => .agg (enc_api_Entry x).toArray) r10 p0.at_) rfl (by kernel_rfl) rfl rfl rfl rfl (fun a w ha h => look1F (tk := 3) (te := 48) (kd := .i64) (val := fun x => .agg (enc_api_Entry x).toArray) (api_Entry.mk 0 0 0 0 0 0 0 0 0 0 (api_Item.mk 0 0 0 0) (api_Res.mk 0 false 0 false 0 0) 0 0) h rfl rfl rfl (by kernel_rfl) (by kernel_rfl) (by kernel_rfl) a ha) (hst.mapIs 2 rfl) ?_
 refine OA.act (i := 7) [6, 5, 3] (by kernel_rfl) rfl rfl (by kernel_rfl) (by kernel_rfl) ?_
 refine OW.alloc hst rfl rfl rfl [I 0, I 0, I 0, I 0, I 0, I 0, I 0, I 0, I 0, I 0, I 0, I 0, U 0, U 0, I 0, .bool false, U 0, .bool false, U 0, U 0, U 0, I 0] (by kernel_rfl) ?_
 intro b29 w30 hst
 refine OA.next ⟨(hst.mapIs 2 rfl), (hst.blk 1 rfl rfl), (hst.blk 0 rfl rfl), trivial⟩ ?_
 refine OA.act (i := 8) [] (by kernel_rfl) rfl rfl (by kernel_rfl) (by kernel_rfl) ?_
 refine OW.stB hst 5 rfl rfl rfl rfl rfl (by kernel_rfl) rfl rfl [I ((mget p0.at_ p1.Hook).getD (api_Entry.mk 0 0 0 0 0 0 0 0 0 0 (api_Item.mk 0 0 0 0) (api_Res.mk 0 false 0 false 0 0) 0 0)).What, I ((mget p0.at_ p1.Hook).getD (api_Entry.mk 0 0 0 0 0 0 0 0 0 0 (api_Item.mk 0 0 0 0) (api_Res.mk 0 false 0 false 0 0) 0 0)).Task, I ((mget p0.at_ p1.Hook).getD (api_Entry.mk 0 0 0 0 0 0 0 0 0 0 (api_Item.mk 0 0 0 0) (api_Res.mk 0 false 0 false 0 0) 0 0)).From, I ((mget p0.at_ p1.Hook).getD (api_Entry.mk 0 0 0 0 0 0 0 0 0 0 (api_Item.mk 0 0 0 0) (api_Res.mk 0 false 0 false 0 0) 0 0)).Cmd, I ((mget p0.at_ p1.Hook).getD (api_Entry.mk 0 0 0 0 0 0 0 0 0 0 (api_Item.mk 0 0 0 0) (api_Res.mk 0 false 0 false 0 0) 0 0)).Tag, I ((mget p0.at_ p1.Hook).getD (api_Entry.mk 0 0 0 0 0 0 0 0 0 0 (api_Item.mk 0 0 0 0) (api_Res.mk 0 false 0 false 0 0) 0 0)).Event, I ((mget p0.at_ p1.Hook).getD (api_Entry.mk 0 0 0 0 0 0 0 0 0 0 (api_Item.mk 0 0 0 0) (api_Res.mk 0 false 0 false 0 0) 0 0)).Hook, I ((mget p0.at_ p1.Hook).getD (api_Entry.mk 0 0 0 0 0 0 0 0 0 0 (api_Item.mk 0 0 0 0) (api_Res.mk 0 false 0 false 0 0) 0 0)).Prog, I ((mget p0.at_ p1.Hook).getD (api_Entry.mk 0 0 0 0 0 0 0 0 0 0 (api_Item.mk 0 0 0 0) (api_Res.mk 0 false 0 false 0 0) 0 0)).Version, I ((mget p0.at_ p1.Hook).getD (api_Entry.mk 0 0 0 0 0 0 0 0 0 0 (api_Item.mk 0 0 0 0) (api_Res.mk 0 false 0 false 0 0) 0 0)).Pc, I ((mget p0.at_ p1.Hook).getD (api_Entry.mk 0 0 0 0 0 0 0 0 0 0 (api_Item.mk 0 0 0 0) (api_Res.mk 0 false 0 false 0 0) 0 0)).Item.Map, I ((mget p0.at_ p1.Hook).getD (api_Entry.mk 0 0 0 0 0 0 0 0 0 0 (api_Item.mk 0 0 0 0) (api_Res.mk 0 false 0 false 0 0) 0 0)).Item.Op, U ((mget p0.at_ p1.Hook).getD (api_Entry.mk 0 0 0 0 0 0 0 0 0 0 (api_Item.mk 0 0 0 0) (api_Res.mk 0 false 0 false 0 0) 0 0)).Item.Key, U ((mget p0.at_ p1.Hook).getD (api_Entry.mk 0 0 0 0 0 0 0 0 0 0 (api_Item.mk 0 0 0 0) (api_Res.mk 0 false 0 false 0 0) 0 0)).Item.Val, I ((mget p0.at_ p1.Hook).getD (api_Entry.mk 0 0 0 0 0 0 0 0 0 0 (api_Item.mk 0 0 0 0) (api_Res.mk 0 false 0 false 0 0) 0 0)).Res.E, .bool ((mget p0.at_ p1.Hook).getD (api_Entry.mk 0 0 0 0 0 0 0 0 0 0 (api_Item.mk 0 0 0 0) (api_Res.mk 0 false 0 false 0 0) 0 0)).Res.Found, U ((mget p0.at_ p1.Hook).getD (api_Entry.mk 0 0 0 0 0 0 0 0 0 0 (api_Item.mk 0 0 0 0) (api_Res.mk 0 false 0 false 0 0) 0 0)).Res.Val, .bool ((mget p0.at_ p1.Hook).getD (api_Entry.mk 0 0 0 0 0 0 0 0 0 0 (api_Item.mk 0 0 0 0) (api_Res.mk 0 false 0 false 0 0) 0 0)).Res.Out, U ((mget p0.at_ p1.Hook).getD (api_Entry.mk 0 0 0 0 0 0 0 0 0 0 (api_Item.mk 0 0 0 0) (api_Res.mk 0 false 0 false 0 0) 0 0)).Res.OutKey, U ((mget p0.at_ p1.Hook).getD (api_Entry.mk 0 0 0 0 0 0 0 0 0 0 (api_Item.mk 0 0 0 0) (api_Res.mk 0 false 0 false 0 0) 0 0)).Res.OutVal, U ((mget p0.at_ p1.Hook).getD (api_Entry.mk 0 0 0 0 0 0 0 0 0 0 (api_Item.mk 0 0 0 0) (api_Res.mk 0 false 0 false 0 0) 0 0)).Val, I ((mget p0.at_ p1.Hook).getD (api_Entry.mk 0 0 0 0 0 0 0 0 0 0 (api_Item.mk 0 0 0 0) (api_Res.mk 0 false 0 false 0 0) 0 0)).E] rfl ?_
 intro w31 hst
 refine OA.next trivial ?_
 refine OA.fin (by kernel_rfl) (by kernel_rfl) (QW.next (CW.seq (rg ?_)))
 refine pu 1 [(25, Pt b4)] ?_
 refine OW.ld rfl rfl rfl rfl (by kernel_rfl) (hst.blk 1 rfl rfl) (nx (CW.block (rg ?_)))
 refine pu 2 [(27, .bool (p1.What == 11))] (nx ?_)
 refine br ((p1.What == 11)) hF (fun hF hc32 => ?_) (fun hF hc32 => ?_)
 ·refine rg ?_
  refine pu 1 [(29, Pt b1)] ?_
  refine OW.ldN (cs := [I p1.What, I p1.Task, I p1.From, I p1.Cmd, I p1.Tag, I p1.Event, I p1.Hook, I p1.Prog, I p1.Version, I p1.Pc, I p1.Item.Map, I p1.Item.Op, U p1.Item.Key, U p1.Item.Val, I p1.Res.E, .bool p1.Res.Found, U p1.Res.Val, .bool p1.Res.Out, U p1.Res.OutKey, U p1.Res.OutVal, U p1.Val, I p1.E]) rfl rfl rfl rfl (by kernel_rfl) (by kernel_rfl) (hst.blkN 1 rfl 0 22) ?_
  have hst := hst.ofMF 2 rfl
  have hst := hst.ofMF 3 rfl
  obtain ⟨S39, hst⟩ := hst.shutP2 R_t96 rfl 0 2 3 [1, 4, 5] rfl rfl rfl rfl p0 rfl rfl
  obtain ⟨r40, hr41, hF⟩ := bs hF
  refine OW.fn rfl rfl rfl rfl (by kernel_rfl) (audit_runs_publish_ok _ (Pt b1) S39 p0 p1 r40 hr41 (hst.part [3] rfl)) ?_
  rintro e w42 ⟨S44, rfl, hst43⟩
  refine ⟨_, rfl, ?_⟩
  have hst := hst.join (idx := [3]) (rest := [0, 1, 2]) rfl hst43
  refine pu 1 [(4, .bool r40.1)] (nx (CW.ret (QW.block_ret (QW.then_ret ?_))))
  obtain rfl := inj hF
  refine QW.ret1 rfl rfl ?_
  exact ⟨S44, rfl, hst.keep [0] rfl⟩
 refine rg ?_
 refine pu 2 [(32, .bool (p1.What == 6))] (nx ?_)
 refine br ((p1.What == 6)) hF (fun hF hc45 => ?_) (fun hF hc45 => ?_)
 ·refine CW.seq (CW.seq ?_)
  refine CW.cutK (fun a w1 => Rep 103 [(0, Pt b1), (3, Pt b4), (53, .bool ((((mget p0.in_ p1.Task).isSome || (p1.Version == 0)) || (((mget p0.at_ p1.Hook).getD (api_Entry.mk 0 0 0 0 0 0 0 0 0 0 (api_Item.mk 0 0 0 0) (api_Res.mk 0 false 0 false 0 0) 0 0)).Version != p1.Version)) || (((mget p0.at_ p1.Hook).getD (api_Entry.mk 0 0 0 0 0 0 0 0 0 0 (api_Item.mk 0 0 0 0) (api_Res.mk 0 false 0 false 0 0) 0 0)).Prog != p1.Prog)))] a ∧ St w (fp [itI R_t69 [Pt b1] S0 p0]) w1 [blkI b1 96 [.map (some r10), .map (some r11), I p0.last], blkI b4 48 [I p1.What, I p1.Task, I p1.From, I p1.Cmd, I p1.Tag, I p1.Event, I p1.Hook, I p1.Prog, I p1.Version, I p1.Pc, I p1.Item.Map, I p1.Item.Op, U p1.Item.Key, U p1.Item.Val, I p1.Res.E, .bool p1.Res.Found, U p1.Res.Val, .bool p1.Res.Out, U p1.Res.OutKey, U p1.Res.OutVal, U p1.Val, I p1.E], mapI r10 (fun x => .agg (enc_api_Entry x).toArray) p0.at_, mapI r11 (fun x => .agg (enc_api_Entry x).toArray) p0.in_]) ?_ ?_
  ·refine CW.region ?_
   refine pu 2 [(35, .bool (mget p0.in_ p1.Task).isSome)] ?_
   refine OW.split 35 rfl (fun hc46 => ?_) (fun hc46 => ?_)
   ·refine pu 18 [(53, .bool true)] (OW.nil rfl ?_)
    refine QW.say 53 (v := .bool ((((mget p0.in_ p1.Task).isSome || (p1.Version == 0)) || (((mget p0.at_ p1.Hook).getD (api_Entry.mk 0 0 0 0 0 0 0 0 0 0 (api_Item.mk 0 0 0 0) (api_Res.mk 0 false 0 false 0 0) 0 0)).Version != p1.Version)) || (((mget p0.at_ p1.Hook).getD (api_Entry.mk 0 0 0 0 0 0 0 0 0 0 (api_Item.mk 0 0 0 0) (api_Res.mk 0 false 0 false 0 0) 0 0)).Prog != p1.Prog))) rfl (by first | (rw [hc46]; done) | (rw [hc46]; rfl) | simp [hc46]) ?_
    exact QW.meet (fun a ha => ⟨ha.ag, hst.keep [0, 1, 2, 3] rfl⟩)
   refine pu 1 [(36, .pointer (some ⟨b4, 8, none⟩))] ?_
   refine OW.ld rfl rfl rfl rfl (by kernel_rfl) (hst.blk 1 rfl rfl) ?_
   refine pu 3 [(40, .bool (p1.Version == 0))] ?_
   refine OW.split 40 rfl (fun hc47 => ?_) (fun hc47 => ?_)
   ·refine pu 13 [(53, .bool true)] (OW.nil rfl ?_)
    refine QW.say 53 (v := .bool ((((mget p0.in_ p1.Task).isSome || (p1.Version == 0)) || (((mget p0.at_ p1.Hook).getD (api_Entry.mk 0 0 0 0 0 0 0 0 0 0 (api_Item.mk 0 0 0 0) (api_Res.mk 0 false 0 false 0 0) 0 0)).Version != p1.Version)) || (((mget p0.at_ p1.Hook).getD (api_Entry.mk 0 0 0 0 0 0 0 0 0 0 (api_Item.mk 0 0 0 0) (api_Res.mk 0 false 0 false 0 0) 0 0)).Prog != p1.Prog))) rfl (by first | (rw [hc46, hc47]; done) | (rw [hc46, hc47]; rfl) | simp [hc46, hc47]) ?_
    exact QW.meet (fun a ha => ⟨ha.ag, hst.keep [0, 1, 2, 3] rfl⟩)
   refine pu 1 [(41, .pointer (some ⟨b29, 8, none⟩))] ?_
   refine OW.ld rfl rfl rfl rfl (by kernel_rfl) (hst.blk 5 rfl rfl) ?_
   refine pu 1 [(43, .pointer (some ⟨b4, 8, none⟩))] ?_
   refine OW.ld rfl rfl rfl rfl (by kernel_rfl) (hst.blk 1 rfl rfl) ?_
   refine pu 3 [(47, .bool (((mget p0.at_ p1.Hook).getD (api_Entry.mk 0 0 0 0 0 0 0 0 0 0 (api_Item.mk 0 0 0 0) (api_Res.mk 0 false 0 false 0 0) 0 0)).Version != p1.Version))] ?_
   refine OW.split 47 rfl (fun hc48 => ?_) (fun hc48 => ?_)
   ·refine pu 6 [(53, .bool true)] (OW.nil rfl ?_)
    refine QW.say 53 (v := .bool ((((mget p0.in_ p1.Task).isSome || (p1.Version == 0)) || (((mget p0.at_ p1.Hook).getD (api_Entry.mk 0 0 0 0 0 0 0 0 0 0 (api_Item.mk 0 0 0 0) (api_Res.mk 0 false 0 false 0 0) 0 0)).Version != p1.Version)) || (((mget p0.at_ p1.Hook).getD (api_Entry.mk 0 0 0 0 0 0 0 0 0 0 (api_Item.mk 0 0 0 0) (api_Res.mk 0 false 0 false 0 0) 0 0)).Prog != p1.Prog))) rfl (by first | (rw [hc46, hc47, hc48]; done) | (rw [hc46, hc47, hc48]; rfl) | simp [hc46, hc47, hc48]) ?_
    exact QW.meet (fun a ha => ⟨ha.ag, hst.keep [0, 1, 2, 3] rfl⟩)
   refine pu 1 [(48, .pointer (some ⟨b29, 7, none⟩))] ?_
   refine OW.ld rfl rfl rfl rfl (by kernel_rfl) (hst.blk 5 rfl rfl) ?_
   refine pu 1 [(50, .pointer (some ⟨b4, 7, none⟩))] ?_
   refine OW.ld rfl rfl rfl rfl (by kernel_rfl) (hst.blk 1 rfl rfl) ?_
   refine pu 2 [(53, .bool (((mget p0.at_ p1.Hook).getD (api_Entry.mk 0 0 0 0 0 0 0 0 0 0 (api_Item.mk 0 0 0 0) (api_Res.mk 0 false 0 false 0 0) 0 0)).Prog != p1.Prog))] (OW.nil rfl ?_)
   refine QW.say 53 (v := .bool ((((mget p0.in_ p1.Task).isSome || (p1.Version == 0)) || (((mget p0.at_ p1.Hook).getD (api_Entry.mk 0 0 0 0 0 0 0 0 0 0 (api_Item.mk 0 0 0 0) (api_Res.mk 0 false 0 false 0 0) 0 0)).Version != p1.Version)) || (((mget p0.at_ p1.Hook).getD (api_Entry.mk 0 0 0 0 0 0 0 0 0 0 (api_Item.mk 0 0 0 0) (api_Res.mk 0 false 0 false 0 0) 0 0)).Prog != p1.Prog))) rfl (by first | (rw [hc46, hc47, hc48]; done) | (rw [hc46, hc47, hc48]; rfl) | simp [hc46, hc47, hc48]) ?_
   exact QW.meet (fun a ha => ⟨ha.ag, hst.keep [0, 1, 2, 3] rfl⟩)
  rintro a w1 ⟨ha, hst⟩
  refine CW.go ?_ ha
  refine br (((((mget p0.in_ p1.Task).isSome || (p1.Version == 0)) || (((mget p0.at_ p1.Hook).getD (api_Entry.mk 0 0 0 0 0 0 0 0 0 0 (api_Item.mk 0 0 0 0) (api_Res.mk 0 false 0 false 0 0) 0 0)).Version != p1.Version)) || (((mget p0.at_ p1.Hook).getD (api_Entry.mk 0 0 0 0 0 0 0 0 0 0 (api_Item.mk 0 0 0 0) (api_Res.mk 0 false 0 false 0 0) 0 0)).Prog != p1.Prog))) hF (fun hF hc49 => ?_) (fun hF hc49 => ?_)
  ·refine rg ?_
   refine pu 1 [(4, .bool false)] (nx (CW.ret (QW.then_ret (QW.block_ret (QW.then_ret ?_)))))
   have hst := hst.ofMF 2 rfl
   have hst := hst.ofMF 3 rfl
   obtain ⟨S50, hst⟩ := hst.shutP2 R_t96 rfl 0 2 3 [1] rfl rfl rfl rfl p0 rfl rfl
   obtain rfl := inj hF
   refine QW.ret1 rfl rfl ?_
   exact ⟨S50, rfl, hst.keep [1] rfl⟩
  refine CW.skip (QW.next ?_)
  refine CW.tail 7 (by kernel_rfl) (by kernel_rfl) ?_
  intro w54 hch55
  have hst := hst.same hch55
  refine OS.pure 3 [(56, .pointer (some ⟨b1, 1, none⟩))] rfl (by kernel_rfl) ?_
  refine OS.ld rfl rfl rfl rfl rfl (by kernel_rfl) (hst.blk 0 rfl rfl) ?_
  refine OS.pure 1 [(58, .pointer (some ⟨b4, 1, none⟩))] rfl (by kernel_rfl) ?_
  refine OS.ld rfl rfl rfl rfl rfl (by kernel_rfl) (hst.blk 1 rfl rfl) ?_
  refine OS.ldN (cs := [I p1.What, I p1.Task, I p1.From, I p1.Cmd, I p1.Tag, I p1.Event, I p1.Hook, I p1.Prog, I p1.Version, I p1.Pc, I p1.Item.Map, I p1.Item.Op, U p1.Item.Key, U p1.Item.Val, I p1.Res.E, .bool p1.Res.Found, U p1.Res.Val, .bool p1.Res.Out, U p1.Res.OutKey, U p1.Res.OutVal, U p1.Val, I p1.E]) rfl rfl rfl rfl rfl (by kernel_rfl) (by kernel_rfl) (hst.blkN 1 rfl 0 22) ?_
  refine OS.on ?_
  refine OW.mput (tk := 3) (te := 48) (kd := .i64) (val := fun x => .agg (enc_api_Entry x).toArray) hst 3 rfl rfl rfl rfl rfl p1 rfl (by kernel_rfl) (by kernel_rfl) ?_
  intro w56 hst
  refine OW.nil rfl (QW.block_normal (QW.next (rg ?_)))
  refine pu 1 [(4, .bool true)] (nx (CW.ret ?_))
  have hst := hst.ofMF 2 rfl
  have hst := hst.ofMF 3 rfl
  obtain ⟨S57, hst⟩ := hst.shutP2 R_t96 rfl 0 2 3 [1] rfl rfl rfl rfl (audit_runs.mk p0.at_ (mput p0.in_ p1.Task p1) p0.last) rfl rfl
  obtain rfl := inj hF
  refine QW.ret1 rfl rfl ?_
  exact ⟨S57, rfl, hst.keep [1] rfl⟩
 refine CW.seq (rg ?_)
 refine pu 2 [(61, .bool (p1.What == 7))] (nx ?_)
 obtain ⟨o66, ho67, hF⟩ := bs hF
 refine CW.cutK (fun a w1 => ∃ (S65 : List Nat), Rep 103 [(0, Pt b1), (3, Pt b4), (5, Pt b19), (6, .bool (mget p0.in_ p1.Task).isSome), (7, Pt b29), (26, I p1.What), (61, .bool o66)] a ∧ St w (fp [itI R_t69 [Pt b1] S0 p0]) w1 [itI R_t69 [Pt b1] S65 p0, blkI b4 48 [I p1.What, I p1.Task, I p1.From, I p1.Cmd, I p1.Tag, I p1.Event, I p1.Hook, I p1.Prog, I p1.Version, I p1.Pc, I p1.Item.Map, I p1.Item.Op, U p1.Item.Key, U p1.Item.Val, I p1.Res.E, .bool p1.Res.Found, U p1.Res.Val, .bool p1.Res.Out, U p1.Res.OutKey, U p1.Res.OutVal, U p1.Val, I p1.E], blkI b19 48 [I ((mget p0.in_ p1.Task).getD (api_Entry.mk 0 0 0 0 0 0 0 0 0 0 (api_Item.mk 0 0 0 0) (api_Res.mk 0 false 0 false 0 0) 0 0)).What, I ((mget p0.in_ p1.Task).getD (api_Entry.mk 0 0 0 0 0 0 0 0 0 0 (api_Item.mk 0 0 0 0) (api_Res.mk 0 false 0 false 0 0) 0 0)).Task, I ((mget p0.in_ p1.Task).getD (api_Entry.mk 0 0 0 0 0 0 0 0 0 0 (api_Item.mk 0 0 0 0) (api_Res.mk 0 false 0 false 0 0) 0 0)).From, I ((mget p0.in_ p1.Task).getD (api_Entry.mk 0 0 0 0 0 0 0 0 0 0 (api_Item.mk 0 0 0 0) (api_Res.mk 0 false 0 false 0 0) 0 0)).Cmd, I ((mget p0.in_ p1.Task).getD (api_Entry.mk 0 0 0 0 0 0 0 0 0 0 (api_Item.mk 0 0 0 0) (api_Res.mk 0 false 0 false 0 0) 0 0)).Tag, I ((mget p0.in_ p1.Task).getD (api_Entry.mk 0 0 0 0 0 0 0 0 0 0 (api_Item.mk 0 0 0 0) (api_Res.mk 0 false 0 false 0 0) 0 0)).Event, I ((mget p0.in_ p1.Task).getD (api_Entry.mk 0 0 0 0 0 0 0 0 0 0 (api_Item.mk 0 0 0 0) (api_Res.mk 0 false 0 false 0 0) 0 0)).Hook, I ((mget p0.in_ p1.Task).getD (api_Entry.mk 0 0 0 0 0 0 0 0 0 0 (api_Item.mk 0 0 0 0) (api_Res.mk 0 false 0 false 0 0) 0 0)).Prog, I ((mget p0.in_ p1.Task).getD (api_Entry.mk 0 0 0 0 0 0 0 0 0 0 (api_Item.mk 0 0 0 0) (api_Res.mk 0 false 0 false 0 0) 0 0)).Version, I ((mget p0.in_ p1.Task).getD (api_Entry.mk 0 0 0 0 0 0 0 0 0 0 (api_Item.mk 0 0 0 0) (api_Res.mk 0 false 0 false 0 0) 0 0)).Pc, I ((mget p0.in_ p1.Task).getD (api_Entry.mk 0 0 0 0 0 0 0 0 0 0 (api_Item.mk 0 0 0 0) (api_Res.mk 0 false 0 false 0 0) 0 0)).Item.Map, I ((mget p0.in_ p1.Task).getD (api_Entry.mk 0 0 0 0 0 0 0 0 0 0 (api_Item.mk 0 0 0 0) (api_Res.mk 0 false 0 false 0 0) 0 0)).Item.Op, U ((mget p0.in_ p1.Task).getD (api_Entry.mk 0 0 0 0 0 0 0 0 0 0 (api_Item.mk 0 0 0 0) (api_Res.mk 0 false 0 false 0 0) 0 0)).Item.Key, U ((mget p0.in_ p1.Task).getD (api_Entry.mk 0 0 0 0 0 0 0 0 0 0 (api_Item.mk 0 0 0 0) (api_Res.mk 0 false 0 false 0 0) 0 0)).Item.Val, I ((mget p0.in_ p1.Task).getD (api_Entry.mk 0 0 0 0 0 0 0 0 0 0 (api_Item.mk 0 0 0 0) (api_Res.mk 0 false 0 false 0 0) 0 0)).Res.E, .bool ((mget p0.in_ p1.Task).getD (api_Entry.mk 0 0 0 0 0 0 0 0 0 0 (api_Item.mk 0 0 0 0) (api_Res.mk 0 false 0 false 0 0) 0 0)).Res.Found, U ((mget p0.in_ p1.Task).getD (api_Entry.mk 0 0 0 0 0 0 0 0 0 0 (api_Item.mk 0 0 0 0) (api_Res.mk 0 false 0 false 0 0) 0 0)).Res.Val, .bool ((mget p0.in_ p1.Task).getD (api_Entry.mk 0 0 0 0 0 0 0 0 0 0 (api_Item.mk 0 0 0 0) (api_Res.mk 0 false 0 false 0 0) 0 0)).Res.Out, U ((mget p0.in_ p1.Task).getD (api_Entry.mk 0 0 0 0 0 0 0 0 0 0 (api_Item.mk 0 0 0 0) (api_Res.mk 0 false 0 false 0 0) 0 0)).Res.OutKey, U ((mget p0.in_ p1.Task).getD (api_Entry.mk 0 0 0 0 0 0 0 0 0 0 (api_Item.mk 0 0 0 0) (api_Res.mk 0 false 0 false 0 0) 0 0)).Res.OutVal, U ((mget p0.in_ p1.Task).getD (api_Entry.mk 0 0 0 0 0 0 0 0 0 0 (api_Item.mk 0 0 0 0) (api_Res.mk 0 false 0 false 0 0) 0 0)).Val, I ((mget p0.in_ p1.Task).getD (api_Entry.mk 0 0 0 0 0 0 0 0 0 0 (api_Item.mk 0 0 0 0) (api_Res.mk 0 false 0 false 0 0) 0 0)).E], blkI b29 48 [I ((mget p0.at_ p1.Hook).getD (api_Entry.mk 0 0 0 0 0 0 0 0 0 0 (api_Item.mk 0 0 0 0) (api_Res.mk 0 false 0 false 0 0) 0 0)).What, I ((mget p0.at_ p1.Hook).getD (api_Entry.mk 0 0 0 0 0 0 0 0 0 0 (api_Item.mk 0 0 0 0) (api_Res.mk 0 false 0 false 0 0) 0 0)).Task, I ((mget p0.at_ p1.Hook).getD (api_Entry.mk 0 0 0 0 0 0 0 0 0 0 (api_Item.mk 0 0 0 0) (api_Res.mk 0 false 0 false 0 0) 0 0)).From, I ((mget p0.at_ p1.Hook).getD (api_Entry.mk 0 0 0 0 0 0 0 0 0 0 (api_Item.mk 0 0 0 0) (api_Res.mk 0 false 0 false 0 0) 0 0)).Cmd, I ((mget p0.at_ p1.Hook).getD (api_Entry.mk 0 0 0 0 0 0 0 0 0 0 (api_Item.mk 0 0 0 0) (api_Res.mk 0 false 0 false 0 0) 0 0)).Tag, I ((mget p0.at_ p1.Hook).getD (api_Entry.mk 0 0 0 0 0 0 0 0 0 0 (api_Item.mk 0 0 0 0) (api_Res.mk 0 false 0 false 0 0) 0 0)).Event, I ((mget p0.at_ p1.Hook).getD (api_Entry.mk 0 0 0 0 0 0 0 0 0 0 (api_Item.mk 0 0 0 0) (api_Res.mk 0 false 0 false 0 0) 0 0)).Hook, I ((mget p0.at_ p1.Hook).getD (api_Entry.mk 0 0 0 0 0 0 0 0 0 0 (api_Item.mk 0 0 0 0) (api_Res.mk 0 false 0 false 0 0) 0 0)).Prog, I ((mget p0.at_ p1.Hook).getD (api_Entry.mk 0 0 0 0 0 0 0 0 0 0 (api_Item.mk 0 0 0 0) (api_Res.mk 0 false 0 false 0 0) 0 0)).Version, I ((mget p0.at_ p1.Hook).getD (api_Entry.mk 0 0 0 0 0 0 0 0 0 0 (api_Item.mk 0 0 0 0) (api_Res.mk 0 false 0 false 0 0) 0 0)).Pc, I ((mget p0.at_ p1.Hook).getD (api_Entry.mk 0 0 0 0 0 0 0 0 0 0 (api_Item.mk 0 0 0 0) (api_Res.mk 0 false 0 false 0 0) 0 0)).Item.Map, I ((mget p0.at_ p1.Hook).getD (api_Entry.mk 0 0 0 0 0 0 0 0 0 0 (api_Item.mk 0 0 0 0) (api_Res.mk 0 false 0 false 0 0) 0 0)).Item.Op, U ((mget p0.at_ p1.Hook).getD (api_Entry.mk 0 0 0 0 0 0 0 0 0 0 (api_Item.mk 0 0 0 0) (api_Res.mk 0 false 0 false 0 0) 0 0)).Item.Key, U ((mget p0.at_ p1.Hook).getD (api_Entry.mk 0 0 0 0 0 0 0 0 0 0 (api_Item.mk 0 0 0 0) (api_Res.mk 0 false 0 false 0 0) 0 0)).Item.Val, I ((mget p0.at_ p1.Hook).getD (api_Entry.mk 0 0 0 0 0 0 0 0 0 0 (api_Item.mk 0 0 0 0) (api_Res.mk 0 false 0 false 0 0) 0 0)).Res.E, .bool ((mget p0.at_ p1.Hook).getD (api_Entry.mk 0 0 0 0 0 0 0 0 0 0 (api_Item.mk 0 0 0 0) (api_Res.mk 0 false 0 false 0 0) 0 0)).Res.Found, U ((mget p0.at_ p1.Hook).getD (api_Entry.mk 0 0 0 0 0 0 0 0 0 0 (api_Item.mk 0 0 0 0) (api_Res.mk 0 false 0 false 0 0) 0 0)).Res.Val, .bool ((mget p0.at_ p1.Hook).getD (api_Entry.mk 0 0 0 0 0 0 0 0 0 0 (api_Item.mk 0 0 0 0) (api_Res.mk 0 false 0 false 0 0) 0 0)).Res.Out, U ((mget p0.at_ p1.Hook).getD (api_Entry.mk 0 0 0 0 0 0 0 0 0 0 (api_Item.mk 0 0 0 0) (api_Res.mk 0 false 0 false 0 0) 0 0)).Res.OutKey, U ((mget p0.at_ p1.Hook).getD (api_Entry.mk 0 0 0 0 0 0 0 0 0 0 (api_Item.mk 0 0 0 0) (api_Res.mk 0 false 0 false 0 0) 0 0)).Res.OutVal, U ((mget p0.at_ p1.Hook).getD (api_Entry.mk 0 0 0 0 0 0 0 0 0 0 (api_Item.mk 0 0 0 0) (api_Res.mk 0 false 0 false 0 0) 0 0)).Val, I ((mget p0.at_ p1.Hook).getD (api_Entry.mk 0 0 0 0 0 0 0 0 0 0 (api_Item.mk 0 0 0 0) (api_Res.mk 0 false 0 false 0 0) 0 0)).E]]) ?_ ?_
 ·refine br ((p1.What == 7)) ho67 (fun ho67 hc68 => ?_) (fun ho67 hc68 => ?_)
  ·refine CW.skip ?_
   have hst := hst.ofMF 2 rfl
   have hst := hst.ofMF 3 rfl
   obtain ⟨S69, hst⟩ := hst.shutP2 R_t96 rfl 0 2 3 [1, 4, 5] rfl rfl rfl rfl p0 rfl rfl
   obtain rfl := inj ho67
   exact QW.meet (fun a ha => ⟨S69, ha.ag, hst.keep [3, 0, 1, 2] rfl⟩)
  refine rg ?_
  refine pu 2 [(61, .bool (p1.What == 8))] (nx ?_)
  refine br ((p1.What == 8)) ho67 (fun ho67 hc70 => ?_) (fun ho67 hc70 => ?_)
  ·refine CW.skip ?_
   have hst := hst.ofMF 2 rfl
   have hst := hst.ofMF 3 rfl
   obtain ⟨S71, hst⟩ := hst.shutP2 R_t96 rfl 0 2 3 [1, 4, 5] rfl rfl rfl rfl p0 rfl rfl
   obtain rfl := inj ho67
   exact QW.meet (fun a ha => ⟨S71, ha.ag, hst.keep [3, 0, 1, 2] rfl⟩)
  refine rg ?_
  refine pu 2 [(61, .bool (p1.What == 16))] (nx ?_)
  refine br ((p1.What == 16)) ho67 (fun ho67 hc72 => ?_) (fun ho67 hc72 => ?_)
  ·refine CW.skip ?_
   have hst := hst.ofMF 2 rfl
   have hst := hst.ofMF 3 rfl
   obtain ⟨S73, hst⟩ := hst.shutP2 R_t96 rfl 0 2 3 [1, 4, 5] rfl rfl rfl rfl p0 rfl rfl
   obtain rfl := inj ho67
   exact QW.meet (fun a ha => ⟨S73, ha.ag, hst.keep [3, 0, 1, 2] rfl⟩)
  refine CW.region ?_
  refine pu 2 [(61, .bool (p1.What == 17))] (OW.nil rfl ?_)
  have hst := hst.ofMF 2 rfl
  have hst := hst.ofMF 3 rfl
  obtain ⟨S74, hst⟩ := hst.shutP2 R_t96 rfl 0 2 3 [1, 4, 5] rfl rfl rfl rfl p0 rfl rfl
  obtain rfl := inj ho67
  exact QW.meet (fun a ha => ⟨S74, ha.ag, hst.keep [3, 0, 1, 2] rfl⟩)
 rintro a w1 ⟨S65, ha, hst⟩
 refine CW.go ?_ ha
 refine br (o66) hF (fun hF hc75 => ?_) (fun hF hc75 => ?_)
 ·refine rg ?_
  refine pu 1 [(66, Pt b1)] ?_
  refine OW.ldN (cs := [I p1.What, I p1.Task, I p1.From, I p1.Cmd, I p1.Tag, I p1.Event, I p1.Hook, I p1.Prog, I p1.Version, I p1.Pc, I p1.Item.Map, I p1.Item.Op, U p1.Item.Key, U p1.Item.Val, I p1.Res.E, .bool p1.Res.Found, U p1.Res.Val, .bool p1.Res.Out, U p1.Res.OutKey, U p1.Res.OutVal, U p1.Val, I p1.E]) rfl rfl rfl rfl (by kernel_rfl) (by kernel_rfl) (hst.blkN 1 rfl 0 22) ?_
  obtain ⟨r81, hr82, hF⟩ := bs hF
  refine OW.fn rfl rfl rfl rfl (by kernel_rfl) (audit_runs_same_ok _ (Pt b1) S65 p0 p1 r81 hr82 (hst.part [0] rfl)) ?_
  rintro e w83 ⟨S85, rfl, hst84⟩
  refine ⟨_, rfl, ?_⟩
  have hst := hst.join (idx := [0]) (rest := [1, 2, 3]) rfl hst84
  refine pu 1 [(4, .bool r81)] (nx (CW.ret (QW.block_ret (QW.then_ret ?_))))
  obtain rfl := inj hF
  refine QW.ret1 rfl rfl ?_
  exact ⟨S85, rfl, hst.keep [0] rfl⟩
 refine rg ?_
 refine pu 2 [(69, .bool (p1.What == 9))] (nx ?_)
 refine br ((p1.What == 9)) hF (fun hF hc86 => ?_) (fun hF hc86 => ?_)
 ·refine CW.seq (rg ?_)
  refine pu 1 [(71, .pointer (some ⟨b4, 8, none⟩))] ?_
  refine OW.ld rfl rfl rfl rfl (by kernel_rfl) (hst.blk 1 rfl rfl) ?_
  refine pu 1 [(73, .bool (p1.Version == 0))] (nx ?_)
  refine br ((p1.Version == 0)) hF (fun hF hc87 => ?_) (fun hF hc87 => ?_)
  ·refine CW.seq ?_
   refine CW.cutK (fun a w1 => Rep 103 [(4, .bool (((!(mget p0.in_ p1.Task).isSome) && (p1.Prog == 0)) && (((mget p0.at_ p1.Hook).getD (api_Entry.mk 0 0 0 0 0 0 0 0 0 0 (api_Item.mk 0 0 0 0) (api_Res.mk 0 false 0 false 0 0) 0 0)).Version == 0)))] a ∧ St w (fp [itI R_t69 [Pt b1] S0 p0]) w1 [itI R_t69 [Pt b1] S65 p0]) ?_ ?_
   ·refine CW.region ?_
    refine pu 3 [(76, .bool (!(mget p0.in_ p1.Task).isSome))] ?_
    refine OW.split 76 rfl (fun hc88 => ?_) (fun hc88 => ?_)
    ·refine pu 1 [(77, .pointer (some ⟨b4, 7, none⟩))] ?_
     refine OW.ld rfl rfl rfl rfl (by kernel_rfl) (hst.blk 1 rfl rfl) ?_
     refine pu 3 [(81, .bool (p1.Prog == 0))] ?_
     refine OW.split 81 rfl (fun hc89 => ?_) (fun hc89 => ?_)
     ·refine pu 1 [(82, .pointer (some ⟨b29, 8, none⟩))] ?_
      refine OW.ld rfl rfl rfl rfl (by kernel_rfl) (hst.blk 3 rfl rfl) ?_
      refine pu 3 [(4, .bool (((mget p0.at_ p1.Hook).getD (api_Entry.mk 0 0 0 0 0 0 0 0 0 0 (api_Item.mk 0 0 0 0) (api_Res.mk 0 false 0 false 0 0) 0 0)).Version == 0))] (OW.nil rfl ?_)
      refine QW.say 4 (v := .bool (((!(mget p0.in_ p1.Task).isSome) && (p1.Prog == 0)) && (((mget p0.at_ p1.Hook).getD (api_Entry.mk 0 0 0 0 0 0 0 0 0 0 (api_Item.mk 0 0 0 0) (api_Res.mk 0 false 0 false 0 0) 0 0)).Version == 0))) rfl (by first | (rw [hc88, hc89]; done) | (rw [hc88, hc89]; rfl) | simp [hc88, hc89]) ?_
      exact QW.meet (fun a ha => ⟨ha.ag, hst.keep [0] rfl⟩)
     refine pu 5 [(4, .bool false)] (OW.nil rfl ?_)
     refine QW.say 4 (v := .bool (((!(mget p0.in_ p1.Task).isSome) && (p1.Prog == 0)) && (((mget p0.at_ p1.Hook).getD (api_Entry.mk 0 0 0 0 0 0 0 0 0 0 (api_Item.mk 0 0 0 0) (api_Res.mk 0 false 0 false 0 0) 0 0)).Version == 0))) rfl (by first | (rw [hc88, hc89]; done) | (rw [hc88, hc89]; rfl) | simp [hc88, hc89]) ?_
     exact QW.meet (fun a ha => ⟨ha.ag, hst.keep [0] rfl⟩)
    refine pu 10 [(4, .bool false)] (OW.nil rfl ?_)
    refine QW.say 4 (v := .bool (((!(mget p0.in_ p1.Task).isSome) && (p1.Prog == 0)) && (((mget p0.at_ p1.Hook).getD (api_Entry.mk 0 0 0 0 0 0 0 0 0 0 (api_Item.mk 0 0 0 0) (api_Res.mk 0 false 0 false 0 0) 0 0)).Version == 0))) rfl (by first | (rw [hc88]; done) | (rw [hc88]; rfl) | simp [hc88]) ?_
    exact QW.meet (fun a ha => ⟨ha.ag, hst.keep [0] rfl⟩)
   rintro a w1 ⟨ha, hst⟩
   refine CW.go ?_ ha
   refine CW.ret (QW.then_ret (QW.block_ret (QW.then_ret ?_)))
   obtain rfl := inj hF
   refine QW.ret1 rfl rfl ?_
   exact ⟨S65, rfl, hst.keep [0] rfl⟩
  refine CW.skip (QW.next (CW.seq (CW.seq ?_)))
  obtain ⟨o102, ho103, hF⟩ := bs hF
  refine CW.cutK (fun a w1 => ∃ (S101 : List Nat), Rep 103 [(0, Pt b1), (3, Pt b4), (96, .bool o102)] a ∧ St w (fp [itI R_t69 [Pt b1] S0 p0]) w1 [itI R_t69 [Pt b1] S101 p0, blkI b4 48 [I p1.What, I p1.Task, I p1.From, I p1.Cmd, I p1.Tag, I p1.Event, I p1.Hook, I p1.Prog, I p1.Version, I p1.Pc, I p1.Item.Map, I p1.Item.Op, U p1.Item.Key, U p1.Item.Val, I p1.Res.E, .bool p1.Res.Found, U p1.Res.Val, .bool p1.Res.Out, U p1.Res.OutKey, U p1.Res.OutVal, U p1.Val, I p1.E]]) ?_ ?_
  ·refine CW.region ?_
   refine pu 1 [(86, Pt b1)] ?_
   refine OW.ldN (cs := [I p1.What, I p1.Task, I p1.From, I p1.Cmd, I p1.Tag, I p1.Event, I p1.Hook, I p1.Prog, I p1.Version, I p1.Pc, I p1.Item.Map, I p1.Item.Op, U p1.Item.Key, U p1.Item.Val, I p1.Res.E, .bool p1.Res.Found, U p1.Res.Val, .bool p1.Res.Out, U p1.Res.OutKey, U p1.Res.OutVal, U p1.Val, I p1.E]) rfl rfl rfl rfl (by kernel_rfl) (by kernel_rfl) (hst.blkN 1 rfl 0 22) ?_
   obtain ⟨r104, hr105, ho103⟩ := bs ho103
   refine OW.fn rfl rfl rfl rfl (by kernel_rfl) (audit_runs_same_ok _ (Pt b1) S65 p0 p1 r104 hr105 (hst.part [0] rfl)) ?_
   rintro e w106 ⟨S108, rfl, hst107⟩
   refine ⟨_, rfl, ?_⟩
   have hst := hst.join (idx := [0]) (rest := [1, 2, 3]) rfl hst107
   refine pu 2 [(90, .bool (!r104))] ?_
   refine OW.split 90 rfl (fun hc109 => ?_) (fun hc109 => ?_)
   ·have ho103 := ite_t ho103 hc109
    refine pu 6 [(96, .bool true)] (OW.nil rfl ?_)
    obtain rfl := inj ho103
    exact QW.meet (fun a ha => ⟨S108, ha.ag, hst.keep [0, 1] rfl⟩)
   have ho103 := ite_f ho103 hc109
   refine pu 1 [(91, .pointer (some ⟨b19, 6, none⟩))] ?_
   refine OW.ld rfl rfl rfl rfl (by kernel_rfl) (hst.blk 2 rfl rfl) ?_
   refine pu 1 [(93, .pointer (some ⟨b4, 6, none⟩))] ?_
   refine OW.ld rfl rfl rfl rfl (by kernel_rfl) (hst.blk 1 rfl rfl) ?_
   refine pu 2 [(96, .bool (((mget p0.in_ p1.Task).getD (api_Entry.mk 0 0 0 0 0 0 0 0 0 0 (api_Item.mk 0 0 0 0) (api_Res.mk 0 false 0 false 0 0) 0 0)).Hook != p1.Hook))] (OW.nil rfl ?_)
   obtain rfl := inj ho103
   exact QW.meet (fun a ha => ⟨S108, ha.ag, hst.keep [0, 1] rfl⟩)
  rintro a w1 ⟨S101, ha, hst⟩
  refine CW.go ?_ ha
  refine br (o102) hF (fun hF hc110 => ?_) (fun hF hc110 => ?_)
  ·refine rg ?_
   refine pu 1 [(4, .bool false)] (nx (CW.ret (QW.then_ret (QW.block_ret (QW.then_ret ?_)))))
   obtain rfl := inj hF
   refine QW.ret1 rfl rfl ?_
   exact ⟨S101, rfl, hst.keep [0] rfl⟩
  refine CW.skip (QW.next ?_)
  obtain ⟨v111, S112, v113, S114, hst⟩ := hst.openQ2 0 rfl rfl rfl
  obtain ⟨r115, rfl, hst⟩ := hst.toMF1 2 rfl
  obtain ⟨r116, rfl, hst⟩ := hst.toMF1 3 rfl
  have hst : St _ _ _ [blkI b1 96 [.map (some r115), .map (some r116), I p0.last], _, _, _] := hst
  refine CW.tail 6 (by kernel_rfl) (by kernel_rfl) ?_
  intro w120 hch121
  have hst := hst.same hch121
  refine OS.pure 3 [(99, .pointer (some ⟨b1, 1, none⟩))] rfl (by kernel_rfl) ?_
  refine OS.ld rfl rfl rfl rfl rfl (by kernel_rfl) (hst.blk 0 rfl rfl) ?_
  refine OS.pure 1 [(101, .pointer (some ⟨b4, 1, none⟩))] rfl (by kernel_rfl) ?_
  refine OS.ld rfl rfl rfl rfl rfl (by kernel_rfl) (hst.blk 1 rfl rfl) ?_
  refine OS.on ?_
  refine OW.mdel (tk := 3) (te := 48) (kd := .i64) hst 3 rfl rfl rfl rfl rfl rfl (by kernel_rfl) (by kernel_rfl) ?_
  intro w122 hst
  refine OW.nil rfl (QW.block_normal (QW.next (rg ?_)))
  refine pu 1 [(4, .bool true)] (nx (CW.ret ?_))
  have hst := hst.ofMF 2 rfl
  have hst := hst.ofMF 3 rfl
  obtain ⟨S123, hst⟩ := hst.shutP2 R_t96 rfl 0 2 3 [1] rfl rfl rfl rfl (audit_runs.mk p0.at_ (mdel p0.in_ p1.Task) p0.last) rfl rfl
  obtain rfl := inj hF
  refine QW.ret1 rfl rfl ?_
  exact ⟨S123, rfl, hst.keep [1] rfl⟩
 refine CW.skip (QW.block_normal (QW.next (rg ?_)))
 refine pu 1 [(4, .bool true)] (nx (CW.ret ?_))
 obtain rfl := inj hF
 refine QW.ret1 rfl rfl ?_
 exact ⟨S65, rfl, hst.keep [0] rfl⟩
theorem slices_Index_int_int_ok (w : World) (v0 : Value) (p0 : List Int) (p1 : Int) (r : Int) (hF : slices_Index_int_int p0 p1 = some r)
    (hst : St w (fp []) w []) (h0 : Rd w (fp []) v0 (encInt .i64) 1 p0) :
    Calls Try.prog 71 [v0, I p1].toArray w (fun e w' => e = .returned (I r) ∧ St w (fp []) w' []) := by
 refine CW.start (N := 19) Try.func71 rfl rfl rfl ?_
 obtain ⟨l1, a2, c3, rfl⟩ := h0.len
 refine rg ?_
 refine pu 1 [] (nx (CW.seq (rg ?_)))
 refine pu 3 [(7, I ((p0).length : Int)), (8, I 0)] (nx ?_)
 obtain ⟨o52, ho53, hF⟩ := bs hF
 refine CW.cutK (fun a w1 => ∃ (t54 : Unit), o52 = .inl t54 ∧ Rep 19 [] a ∧ St w (fp []) w1 []) ?_ ?_
 ·refine CW.block ?_
  refine CW.loop (fun n a w1 => ∃ (i87 : Nat) (s86 : Unit), i87 + n = (p0).length ∧ Rep 19 [(0, .slice a2 (p0).length c3), (1, I p1), (7, I ((p0).length : Int)), (8, I (i87 : Int))] a ∧ St w (fp []) w1 [] ∧ forN (slices_Index_int_int_l1 p0 p1) (fun (s86 : Unit) => (.inl ())) n i87 s86 = some o52) (p0).length (fun a ha => ⟨0, (), Nat.zero_add _, ha.ag, hst.keep [] rfl, ho53⟩) ?_
  rintro n84 a w1 ⟨i87, s86, hi88, ha, hst, hl85⟩
  refine CW.go ?_ ha
  refine rg ?_
  refine pu 1 [(9, .bool (decide ((i87 : Int) < ((p0).length : Int))))] (nx (CW.seq ?_))
  rcases bft (decide ((i87 : Int) < ((p0).length : Int))) with hc89 | hc89
  ·rcases n84 with _ | n84
   ·exact (cnt0 hi88 hc89).elim
   refine CW.cond_t rfl hc89 (CW.skip (QW.next (CW.seq (CW.block (rg ?_)))))
   refine pu 2 [(5, I (i87 : Int))] (nx (rg ?_))
   refine pu 3 [(11, I p1), (12, .slice a2 (p0).length c3), (13, I (i87 : Int))] ?_
   obtain ⟨x96, hx97, hl85⟩ := bs hl85
   obtain ⟨g99, o100, c101, hv98⟩ := h0.formv (fun _ => ⟨_, rfl⟩) hx97
   refine OW.idx 3 1 rfl rfl rfl rfl hv98 rfl (idx_some hx97).1 (idx_some hx97).2.1 (by kernel_rfl) (by kernel_rfl) ?_
   refine OW.ld rfl rfl rfl rfl (by kernel_rfl) (h0.cellv hst hx97 hv98 0 _ rfl) ?_
   refine pu 1 [(16, .bool (p1 == x96))] (nx ?_)
   refine br ((p1 == x96)) hl85 (fun hl85 hc102 => ?_) (fun hl85 hc102 => ?_)
   ·refine rg ?_
    refine pu 2 [(4, I (i87 : Int))] (nx (CW.ret (QW.block_ret (QW.then_ret (QW.then_ret (QW.block_ret (QW.then_ret ?_)))))))
    obtain rfl := inj hl85
    obtain rfl := inj hF
    refine QW.ret1 rfl rfl ?_
    exact ⟨rfl, hst.keep [] rfl⟩
   refine CW.skip (QW.block_normal (QW.next (CW.region ?_)))
   refine pu 2 [(8, I (w64 ((i87 : Int) + 1)))] (OW.nil rfl ?_)
   refine QW.say 8 rfl (congrArg (Value.int .i64) (w64_cnt hc89 l1)) ?_
   exact QW.meet (fun a ha => ⟨n84, Nat.lt_succ_self _, i87 + 1, (), cnt_next hi88, ha.ag, hst.keep [] rfl, hl85⟩)
  rcases n84 with _ | n84
  ·refine CW.cond_f rfl hc89 ?_
   refine CW.exit (QW.then_exit (QW.then_exit ?_))
   refine QW.block_here ?_
   obtain rfl := inj hl85
   exact QW.meet (fun a ha => ⟨(), rfl, ha.ag, hst.keep [] rfl⟩)
  exact (cnt1 hi88 hc89).elim
 rintro a w1 ⟨t54, rfl, ha, hst⟩
 refine CW.go ?_ ha
 refine rg ?_
 refine pu 1 [(4, I (-1))] (nx (CW.ret ?_))
 obtain rfl := inj hF
 refine QW.ret1 rfl rfl ?_
 exact ⟨rfl, hst.keep [] rfl⟩
theorem slices_Contains_int_int_ok (w : World) (v0 : Value) (p0 : List Int) (p1 : Int) (r : Bool) (hF : slices_Contains_int_int p0 p1 = some r)
    (hst : St w (fp []) w []) (h0 : Rd w (fp []) v0 (encInt .i64) 1 p0) :
    Calls Try.prog 70 [v0, I p1].toArray w (fun e w' => e = .returned (.bool r) ∧ St w (fp []) w' []) := by
 refine CW.start (N := 9) Try.func70 rfl rfl rfl ?_
 obtain ⟨l1, a2, c3, rfl⟩ := h0.len
 refine rg ?_
 refine pu 1 [] (nx (rg ?_))
 refine pu 2 [(5, .slice a2 (p0).length c3), (6, I p1)] ?_
 obtain ⟨r8, hr9, hF⟩ := bs hF
 refine OW.fn rfl rfl rfl rfl (by kernel_rfl) (slices_Index_int_int_ok _ (.slice a2 (p0).length c3) p0 p1 r8 hr9 (hst.part [] rfl) (h0.give hst [])) ?_
 rintro e w10 ⟨rfl, hst11⟩
 refine ⟨_, rfl, ?_⟩
 have hst := hst.join (idx := []) (rest := []) rfl hst11
 refine pu 2 [(4, .bool (decide (r8 ≥ 0)))] (nx (CW.ret ?_))
 obtain rfl := inj hF
 refine QW.ret1 rfl rfl ?_
 exact ⟨rfl, hst.keep [] rfl⟩
theorem audit_grace_known_ok (w : World) (v0 : Value) (S0 : List Nat) (p0 : audit_grace) (p1 : Int) (r : Bool) (hF : audit_grace_known p0 p1 = some r)
    (hst : St w (fp [itI R_t71 [v0] S0 p0]) w [itI R_t71 [v0] S0 p0]) :
    Calls Try.prog 68 [v0, I p1].toArray w (fun e w' => ∃ (s0 : List Nat), e = .returned (.bool r) ∧ St w (fp [itI R_t71 [v0] S0 p0]) w' [itI R_t71 [v0] s0 p0]) := by
 refine CW.start (N := 20) Try.func68 rfl rfl rfl ?_
 obtain ⟨b1, rfl⟩ := hst.fptr 0 rfl
 refine rg ?_
 refine pu 1 [] (nx (CW.seq ?_))
 obtain ⟨v2, S3, v4, S5, v6, S7, hst⟩ := hst.openQ3 0 rfl rfl rfl rfl
 have hst := hst.toRow1 1 rfl
 have hst := hst.toRow1 2 rfl
 obtain ⟨r8, rfl, hst⟩ := hst.toMF1 3 rfl
 obtain ⟨l9, a10, c11, rfl⟩ := hst.len 1 rfl
 obtain ⟨l12, a13, c14, rfl⟩ := hst.len 2 rfl
 have hst : St _ _ _ [blkI b1 98 [.slice a10 (p0.loaded).length c11, .slice a13 (p0.retired).length c14, .map (some r8)], _, _, _] := hst
 obtain ⟨o31, ho32, hF⟩ := bs hF
 refine CW.cutK (fun a w1 => ∃ (S30 : List Nat), Rep 20 [(4, .bool o31)] a ∧ St w (fp [itI R_t71 [Pt b1] S0 p0]) w1 [itI R_t71 [Pt b1] S30 p0]) ?_ ?_
 ·refine CW.region ?_
  refine pu 3 [(7, Pt b1)] ?_
  refine OW.ld rfl rfl rfl rfl (by kernel_rfl) (hst.blk 0 rfl rfl) ?_
  refine pu 1 [(9, I p1)] ?_
  obtain ⟨r33, hr34, ho32⟩ := bs ho32
  refine OW.fn rfl rfl rfl rfl (by kernel_rfl) (slices_Contains_int_int_ok _ (.slice a10 (p0.loaded).length c11) p0.loaded p1 r33 hr34 (hst.part [] rfl) (hst.rd 1 rfl (fun _ => rfl) [] rfl (hst.len 1 rfl).1)) ?_
  rintro e w35 ⟨rfl, hst36⟩
  refine ⟨_, rfl, ?_⟩
  have hst := hst.join (idx := []) (rest := [0, 1, 2, 3]) rfl hst36
  refine pu 1 [(11, .bool r33)] ?_
  refine OW.split 11 rfl (fun hc37 => ?_) (fun hc37 => ?_)
  ·have ho32 := ite_t ho32 hc37
   refine pu 3 [(14, .pointer (some ⟨b1, 1, none⟩))] ?_
   refine OW.ld rfl rfl rfl rfl (by kernel_rfl) (hst.blk 0 rfl rfl) ?_
   refine pu 1 [(16, I p1)] ?_
   obtain ⟨r38, hr39, ho32⟩ := bs ho32
   refine OW.fn rfl rfl rfl rfl (by kernel_rfl) (slices_Contains_int_int_ok _ (.slice a13 (p0.retired).length c14) p0.retired p1 r38 hr39 (hst.part [] rfl) (hst.rd 2 rfl (fun _ => rfl) [] rfl (hst.len 2 rfl).1)) ?_
   rintro e w40 ⟨rfl, hst41⟩
   refine ⟨_, rfl, ?_⟩
   have hst := hst.join (idx := []) (rest := [0, 1, 2, 3]) rfl hst41
   refine pu 3 [(4, .bool (!r38))] (OW.nil rfl ?_)
   have hst := hst.toIt 1 rfl (fun _ => rfl) (by decide)
   have hst := hst.toIt 2 rfl (fun _ => rfl) (by decide)
   have hst := hst.ofMF 3 rfl
   obtain ⟨S42, hst⟩ := hst.shutP3 R_t98 rfl 0 1 2 3 [] rfl rfl rfl rfl rfl p0 rfl rfl
   obtain rfl := inj ho32
   exact QW.meet (fun a ha => ⟨S42, ha.ag, hst.keep [0] rfl⟩)
  have ho32 := ite_f ho32 hc37
  refine pu 9 [(4, .bool false)] (OW.nil rfl ?_)
  have hst := hst.toIt 1 rfl (fun _ => rfl) (by decide)
  have hst := hst.toIt 2 rfl (fun _ => rfl) (by decide)
  have hst := hst.ofMF 3 rfl
  obtain ⟨S43, hst⟩ := hst.shutP3 R_t98 rfl 0 1 2 3 [] rfl rfl rfl rfl rfl p0 rfl rfl
  obtain rfl := inj ho32
  exact QW.meet (fun a ha => ⟨S43, ha.ag, hst.keep [0] rfl⟩)
 rintro a w1 ⟨S30, ha, hst⟩
 refine CW.go ?_ ha
 refine CW.ret ?_
 obtain rfl := inj hF
 refine QW.ret1 rfl rfl ?_
 exact ⟨S30, rfl, hst.keep [0] rfl⟩
theorem audit_grace_right_ok (w : World) (v0 : Value) (S0 : List Nat) (p0 : audit_grace) (p1 : api_Entry) (r : Bool × audit_grace) (hF : audit_grace_right p0 p1 = some r)
    (hst : St w (fp [itI R_t71 [v0] S0 p0]) w [itI R_t71 [v0] S0 p0]) :
    Calls Try.prog 69 [v0, .agg [I p1.What, I p1.Task, I p1.From, I p1.Cmd, I p1.Tag, I p1.Event, I p1.Hook, I p1.Prog, I p1.Version, I p1.Pc, I p1.Item.Map, I p1.Item.Op, U p1.Item.Key, U p1.Item.Val, I p1.Res.E, .bool p1.Res.Found, U p1.Res.Val, .bool p1.Res.Out, U p1.Res.OutKey, U p1.Res.OutVal, U p1.Val, I p1.E].toArray].toArray w (fun e w' => ∃ (s0 : List Nat), e = .returned (.bool r.1) ∧ St w (fp [itI R_t71 [v0] S0 p0]) w' [itI R_t71 [v0] s0 r.2]) := by
 refine CW.start (N := 111) Try.func69 rfl rfl rfl ?_
 obtain ⟨b1, rfl⟩ := hst.fptr 0 rfl
 refine rg ?_
 refine OW.box hst rfl rfl rfl rfl [I p1.What, I p1.Task, I p1.From, I p1.Cmd, I p1.Tag, I p1.Event, I p1.Hook, I p1.Prog, I p1.Version, I p1.Pc, I p1.Item.Map, I p1.Item.Op, U p1.Item.Key, U p1.Item.Val, I p1.Res.E, .bool p1.Res.Found, U p1.Res.Val, .bool p1.Res.Out, U p1.Res.OutKey, U p1.Res.OutVal, U p1.Val, I p1.E] rfl ?_
 intro b4 w5 hst
 refine pu 1 [] (nx (CW.seq (rg ?_)))
 refine pu 1 [(7, Pt b4)] ?_
 refine OW.ld rfl rfl rfl rfl (by kernel_rfl) (hst.blk 1 rfl rfl) (nx (CW.block (rg ?_)))
 refine pu 2 [(9, .bool (p1.What == 12))] (nx ?_)
 refine br ((p1.What == 12)) hF (fun hF hc6 => ?_) (fun hF hc6 => ?_)
 ·refine CW.seq (CW.seq ?_)
  obtain ⟨v7, S8, v9, S10, v11, S12, hst⟩ := hst.openQ3 0 rfl rfl rfl rfl
  have hst := hst.toRow1 2 rfl
  have hst := hst.toRow1 3 rfl
  obtain ⟨r13, rfl, hst⟩ := hst.toMF1 4 rfl
  obtain ⟨l14, a15, c16, rfl⟩ := hst.len 2 rfl
  obtain ⟨l17, a18, c19, rfl⟩ := hst.len 3 rfl
  have hst : St _ _ _ [blkI b1 98 [.slice a15 (p0.loaded).length c16, .slice a18 (p0.retired).length c19, .map (some r13)], _, _, _, _] := hst
  refine CW.tail 6 (by kernel_rfl) (by kernel_rfl) ?_
  intro w26 hch27
  have hst := hst.same hch27
  refine OS.pure 3 [(13, Pt b1)] rfl (by kernel_rfl) ?_
  refine OS.ld rfl rfl rfl rfl rfl (by kernel_rfl) (hst.blk 0 rfl rfl) ?_
  refine OS.pure 1 [(15, .pointer (some ⟨b4, 7, none⟩))] rfl (by kernel_rfl) ?_
  refine OS.ld rfl rfl rfl rfl rfl (by kernel_rfl) (hst.blk 1 rfl rfl) ?_
  refine OS.on ?_
  obtain ⟨r28, hr29, hF⟩ := bs hF
  refine OW.fn rfl rfl rfl rfl (by kernel_rfl) (slices_Contains_int_int_ok _ (.slice a15 (p0.loaded).length c16) p0.loaded p1.Prog r28 hr29 (hst.part [] rfl) (hst.rd 2 rfl (fun _ => rfl) [] rfl (hst.len 2 rfl).1)) ?_
  rintro e w30 ⟨rfl, hst31⟩
  refine ⟨_, rfl, ?_⟩
  have hst := hst.join (idx := []) (rest := [0, 1, 2, 3, 4]) rfl hst31
  refine nx ?_
  refine br (r28) hF (fun hF hc32 => ?_) (fun hF hc32 => ?_)
  ·refine rg ?_
   refine pu 1 [(4, .bool false)] (nx (CW.ret (QW.then_ret (QW.block_ret (QW.then_ret ?_)))))
   have hst := hst.toIt 2 rfl (fun _ => rfl) (by decide)
   have hst := hst.toIt 3 rfl (fun _ => rfl) (by decide)
   have hst := hst.ofMF 4 rfl
   obtain ⟨S33, hst⟩ := hst.shutP3 R_t98 rfl 0 2 3 4 [1] rfl rfl rfl rfl rfl p0 rfl rfl
   obtain rfl := inj hF
   refine QW.ret1 rfl rfl ?_
   exact ⟨S33, rfl, hst.keep [1] rfl⟩
  refine CW.skip (QW.next ?_)
  refine CW.plan (by kernel_rfl) ?_
  intro w46 hch47
  have hst := hst.same hch47
  refine OA.pure [0, 1, 2, 3] [(18, Pt b1), (21, Pt b1)] (by kernel_rfl) ?_
  refine OA.ld (i := 4) rfl (by kernel_rfl) rfl rfl rfl (by kernel_rfl) (hst.blk 0 rfl rfl) ?_
  refine OA.pure [5] [(23, .pointer (some ⟨b4, 7, none⟩))] (by kernel_rfl) ?_
  refine OA.ld (i := 6) rfl (by kernel_rfl) rfl rfl rfl (by kernel_rfl) (hst.blk 1 rfl rfl) ?_
  refine OA.act (i := 7) [4] (by kernel_rfl) rfl rfl (by kernel_rfl) (by kernel_rfl) ?_
  refine OW.row (α := Int) (e := 3) (enc := encInt .i64) (sz := 1) hst rfl rfl rfl [p1.Prog] rfl (fun _ => rfl) rfl rfl (fun _ => by kernel_rfl) ?_
  intro g48 w49 hst
  refine OA.next ⟨(hst.blk 0 rfl rfl), trivial⟩ ?_
  refine OA.act (i := 8) [] (by kernel_rfl) rfl rfl (by kernel_rfl) (by kernel_rfl) ?_
  obtain ⟨u50, hr51, hF⟩ := bs hF
  refine OW.app hst 2 rfl (fun _ => rfl) (fun _ => rfl) rfl rfl rfl rfl rfl rfl (by kernel_rfl) el3 (hst.rd 5 rfl (fun _ => rfl) [] rfl (hst.len 5 rfl).1) (room_le hr51) ?_
  intro v52 w53 hst
  obtain ⟨l54, a55, c56, rfl⟩ := hst.len 2 rfl
  refine OA.next trivial ?_
  refine OA.pure [9, 10] [(28, Pt b1)] (by kernel_rfl) ?_
  refine OA.act (i := 11) [] (by kernel_rfl) rfl rfl (by kernel_rfl) (by kernel_rfl) ?_
  refine OW.stB hst 0 rfl rfl rfl rfl rfl (by kernel_rfl) rfl rfl [.slice a55 ((p0.loaded ++ [p1.Prog])).length c56, .slice a18 (p0.retired).length c19, .map (some r13)] rfl ?_
  intro w57 hst
  refine OA.next trivial ?_
  refine OA.fin (by kernel_rfl) (by kernel_rfl) (QW.block_normal (QW.next (rg ?_)))
  refine pu 1 [(4, .bool true)] (nx (CW.ret ?_))
  have hst := hst.toIt 2 rfl (fun _ => rfl) (by decide)
  have hst := hst.toIt 3 rfl (fun _ => rfl) (by decide)
  have hst := hst.ofMF 4 rfl
  obtain ⟨S58, hst⟩ := hst.shutP3 R_t98 rfl 0 2 3 4 [1, 5] rfl rfl rfl rfl rfl (audit_grace.mk (p0.loaded ++ [p1.Prog]) p0.retired p0.in_) rfl rfl
  obtain rfl := inj hF
  refine QW.ret1 rfl rfl ?_
  exact ⟨S58, rfl, hst.keep [2] rfl⟩
 refine rg ?_
 refine pu 2 [(29, .bool (p1.What == 13))] (nx ?_)
 refine br ((p1.What == 13)) hF (fun hF hc59 => ?_) (fun hF hc59 => ?_)
 ·refine CW.seq (CW.seq ?_)
  obtain ⟨v60, S61, v62, S63, v64, S65, hst⟩ := hst.openQ3 0 rfl rfl rfl rfl
  have hst := hst.toRow1 2 rfl
  have hst := hst.toRow1 3 rfl
  obtain ⟨r66, rfl, hst⟩ := hst.toMF1 4 rfl
  obtain ⟨l67, a68, c69, rfl⟩ := hst.len 2 rfl
  obtain ⟨l70, a71, c72, rfl⟩ := hst.len 3 rfl
  have hst : St _ _ _ [blkI b1 98 [.slice a68 (p0.loaded).length c69, .slice a71 (p0.retired).length c72, .map (some r66)], _, _, _, _] := hst
  refine CW.region ?_
  refine pu 3 [(33, .pointer (some ⟨b1, 2, none⟩))] ?_
  refine OW.ld rfl rfl rfl rfl (by kernel_rfl) (hst.blk 0 rfl rfl) ?_
  have hst := hst.mF2N 4 rfl
  refine OW.range (tk := 3) (te := 3) hst 4 rfl rfl rfl rfl rfl (by kernel_rfl) ?_
  intro it75 w76 hst
  refine nx (CW.block ?_)
  refine CW.loop (fun n a w1 => ∃ (s160 : Unit) (rem161 : List (Int × Int)) (last162 : Option (Int × Value × Int)), n = rem161.length ∧ Rep 111 [(0, Pt b1), (3, Pt b4), (35, Pt it75)] a ∧ St w (fp [itI R_t71 [Pt b1] S0 p0]) w1 [blkI b1 98 [.slice a68 (p0.loaded).length c69, .slice a71 (p0.retired).length c72, .map (some r66)], rowI (.slice a68 (p0.loaded).length c69) 3 (encInt .i64) 1 p0.loaded, rowI (.slice a71 (p0.retired).length c72) 3 (encInt .i64) 1 p0.retired, rngI it75 r66 (flatP (fun x => [(Value.int .i64) x]) 1 (fun _ => rfl)) ([r66]) p0.in_ rem161 last162, blkI b4 48 [I p1.What, I p1.Task, I p1.From, I p1.Cmd, I p1.Tag, I p1.Event, I p1.Hook, I p1.Prog, I p1.Version, I p1.Pc, I p1.Item.Map, I p1.Item.Op, U p1.Item.Key, U p1.Item.Val, I p1.Res.E, .bool p1.Res.Found, U p1.Res.Val, .bool p1.Res.Out, U p1.Res.OutKey, U p1.Res.OutVal, U p1.Val, I p1.E]] ∧ ∀ q, q.Perm rem161 → rangeF (audit_grace_right_b1 p0 p1) (audit_grace_right_f1 p0 p1) q s160 = some r) (p0.in_.length) (fun a ha => ⟨(), p0.in_, none, rfl, ha.ag, hst.keep [0, 2, 3, 4, 1] rfl, fun q hq => (audit_grace_right_fair1 p0 p1) q hq _ hF⟩) ?_
  rintro n157 a w1 ⟨s160, rem161, last162, hn159, ha, hst, hl158⟩
  refine CW.go ?_ ha
  refine rg ?_
  refine OW.rnext hst 3 rfl rfl rfl rfl rfl ?_ ?_
  ·intro hr183
   have hf184 : (audit_grace_right_f1 p0 p1) s160 = some r := hl158 [] (by rw [hr183])
   have hst := hst.unrng 3 rfl
   have hst := hst.mN2F (val := Value.int .i64) 3 rfl
   refine pu 1 [(37, .bool false)] (nx (CW.seq (CW.cond_f rfl rfl ?_)))
   refine CW.exit (QW.then_exit (QW.then_exit ?_))
   refine QW.block_here (QW.next (CW.seq (rg ?_)))
   refine pu 2 [(44, Pt b1), (45, .pointer (some ⟨b4, 7, none⟩))] ?_
   refine OW.ld rfl rfl rfl rfl (by kernel_rfl) (hst.blk 4 rfl rfl) ?_
   have hst := hst.toIt 1 rfl (fun _ => rfl) (by decide)
   have hst := hst.toIt 2 rfl (fun _ => rfl) (by decide)
   have hst := hst.ofMF 3 rfl
   obtain ⟨S191, hst⟩ := hst.shutP3 R_t98 rfl 0 1 2 3 [4] rfl rfl rfl rfl rfl p0 rfl rfl
   obtain ⟨r192, hr193, hf184⟩ := bs hf184
   refine OW.fn rfl rfl rfl rfl (by kernel_rfl) (audit_grace_known_ok _ (Pt b1) S191 p0 p1.Prog r192 hr193 (hst.part [1] rfl)) ?_
   rintro e w194 ⟨S196, rfl, hst195⟩
   refine ⟨_, rfl, ?_⟩
   have hst := hst.join (idx := [1]) (rest := [0]) rfl hst195
   refine pu 1 [(48, .bool (!r192))] (nx ?_)
   refine br ((!r192)) hf184 (fun hf184 hc197 => ?_) (fun hf184 hc197 => ?_)
   ·refine rg ?_
    refine pu 1 [(4, .bool false)] (nx (CW.ret (QW.then_ret (QW.block_ret (QW.then_ret ?_)))))
    obtain rfl := inj hf184
    refine QW.ret1 rfl rfl ?_
    exact ⟨S196, rfl, hst.keep [0] rfl⟩
   refine CW.skip (QW.next ?_)
   obtain ⟨v198, S199, v200, S201, v202, S203, hst⟩ := hst.openQ3 0 rfl rfl rfl rfl
   have hst := hst.toRow1 2 rfl
   have hst := hst.toRow1 3 rfl
   obtain ⟨r204, rfl, hst⟩ := hst.toMF1 4 rfl
   obtain ⟨l205, a206, c207, rfl⟩ := hst.len 2 rfl
   obtain ⟨l208, a209, c210, rfl⟩ := hst.len 3 rfl
   have hst : St _ _ _ [blkI b1 98 [.slice a206 (p0.loaded).length c207, .slice a209 (p0.retired).length c210, .map (some r204)], _, _, _, _] := hst
   refine CW.plan (by kernel_rfl) ?_
   intro w223 hch224
   have hst := hst.same hch224
   refine OA.pure [0, 1, 2, 3] [(49, Pt b1), (52, .pointer (some ⟨b1, 1, none⟩))] (by kernel_rfl) ?_
   refine OA.ld (i := 4) rfl (by kernel_rfl) rfl rfl rfl (by kernel_rfl) (hst.blk 0 rfl rfl) ?_
   refine OA.pure [5] [(54, .pointer (some ⟨b4, 7, none⟩))] (by kernel_rfl) ?_
   refine OA.ld (i := 6) rfl (by kernel_rfl) rfl rfl rfl (by kernel_rfl) (hst.blk 1 rfl rfl) ?_
   refine OA.act (i := 7) [4] (by kernel_rfl) rfl rfl (by kernel_rfl) (by kernel_rfl) ?_
   refine OW.row (α := Int) (e := 3) (enc := encInt .i64) (sz := 1) hst rfl rfl rfl [p1.Prog] rfl (fun _ => rfl) rfl rfl (fun _ => by kernel_rfl) ?_
   intro g225 w226 hst
   refine OA.next ⟨(hst.blk 0 rfl rfl), trivial⟩ ?_
   refine OA.act (i := 8) [] (by kernel_rfl) rfl rfl (by kernel_rfl) (by kernel_rfl) ?_
   obtain ⟨u227, hr228, hf184⟩ := bs hf184
   refine OW.app hst 3 rfl (fun _ => rfl) (fun _ => rfl) rfl rfl rfl rfl rfl rfl (by kernel_rfl) el3 (hst.rd 5 rfl (fun _ => rfl) [] rfl (hst.len 5 rfl).1) (room_le hr228) ?_
   intro v229 w230 hst
   obtain ⟨l231, a232, c233, rfl⟩ := hst.len 3 rfl
   refine OA.next trivial ?_
   refine OA.pure [9, 10] [(59, .pointer (some ⟨b1, 1, none⟩))] (by kernel_rfl) ?_
   refine OA.act (i := 11) [] (by kernel_rfl) rfl rfl (by kernel_rfl) (by kernel_rfl) ?_
   refine OW.stB hst 0 rfl rfl rfl rfl rfl (by kernel_rfl) rfl rfl [.slice a206 (p0.loaded).length c207, .slice a232 ((p0.retired ++ [p1.Prog])).length c233, .map (some r204)] rfl ?_
   intro w234 hst
   refine OA.next trivial ?_
   refine OA.fin (by kernel_rfl) (by kernel_rfl) (QW.block_normal (QW.next (rg ?_)))
   refine pu 1 [(4, .bool true)] (nx (CW.ret ?_))
   have hst := hst.toIt 2 rfl (fun _ => rfl) (by decide)
   have hst := hst.toIt 3 rfl (fun _ => rfl) (by decide)
   have hst := hst.ofMF 4 rfl
   obtain ⟨S235, hst⟩ := hst.shutP3 R_t98 rfl 0 2 3 4 [1, 5] rfl rfl rfl rfl rfl (audit_grace.mk p0.loaded (p0.retired ++ [p1.Prog]) p0.in_) rfl rfl
   obtain rfl := inj hf184
   refine QW.ret1 rfl rfl ?_
   exact ⟨S235, rfl, hst.keep [2] rfl⟩
  intro k174 v175 x176 rem177 w178 hp179 hst
  obtain ⟨t182, hs180, ht181⟩ := bs (hl158 ((k174, x176) :: rem177) hp179.symm)
  have hs1800 := hs180
  obtain rfl := hst.rval (val := Value.int .i64) 3 rfl
  refine pu 1 [(37, .bool true)] (nx (CW.seq (CW.cond_t rfl rfl (CW.skip (QW.next (CW.block (rg ?_)))))))
  refine OW.rentry hst 3 rfl rfl rfl rfl rfl ?_
  refine pu 2 [(6, I x176)] (nx (rg ?_))
  refine pu 2 [(40, I x176), (41, .pointer (some ⟨b4, 7, none⟩))] ?_
  refine OW.ld rfl rfl rfl rfl (by kernel_rfl) (hst.blk 4 rfl rfl) ?_
  refine pu 1 [(43, .bool (x176 == p1.Prog))] (nx ?_)
  refine br ((x176 == p1.Prog)) hs180 (fun hs180 hc236 => ?_) (fun hs180 hc236 => ?_)
  ·refine rg ?_
   refine pu 1 [(4, .bool false)] (nx (CW.ret (QW.block_ret (QW.then_ret (QW.block_ret (QW.then_ret (QW.block_ret (QW.then_ret ?_))))))))
   have hst := hst.unrng 3 rfl
   have hst := hst.mN2F (val := Value.int .i64) 3 rfl
   have hst := hst.toIt 1 rfl (fun _ => rfl) (by decide)
   have hst := hst.toIt 2 rfl (fun _ => rfl) (by decide)
   have hst := hst.ofMF 3 rfl
   obtain ⟨S237, hst⟩ := hst.shutP3 R_t98 rfl 0 1 2 3 [4] rfl rfl rfl rfl rfl p0 rfl rfl
   obtain rfl := inj hs180
   obtain rfl := inj ht181
   refine QW.ret1 rfl rfl ?_
   exact ⟨S237, rfl, hst.keep [1] rfl⟩
  refine CW.skip (QW.block_normal ?_)
  obtain rfl := inj hs180
  exact QW.meet (fun a ha => ⟨_, rng_lt hn159 hp179, (), rem177, (some (k174, (Value.int .i64) x176, x176)), rfl, ha.ag, hst.keep [0, 1, 2, 3, 4] rfl, fun q hq => rangeF_step (hl158 _ ((List.Perm.cons _ hq).trans hp179.symm)) hs1800⟩)
 refine rg ?_
 refine pu 2 [(60, .bool (p1.What == 11))] (nx ?_)
 refine br ((p1.What == 11)) hF (fun hF hc242 => ?_) (fun hF hc242 => ?_)
 ·refine CW.seq ?_
  obtain ⟨o250, ho251, hF⟩ := bs hF
  refine CW.cutK (fun a w1 => ∃ (S249 : List Nat), Rep 111 [(4, .bool o250)] a ∧ St w (fp [itI R_t71 [Pt b1] S0 p0]) w1 [itI R_t71 [Pt b1] S249 p0]) ?_ ?_
  ·refine CW.region ?_
   refine pu 1 [(62, .pointer (some ⟨b4, 8, none⟩))] ?_
   refine OW.ld rfl rfl rfl rfl (by kernel_rfl) (hst.blk 1 rfl rfl) ?_
   refine pu 2 [(65, .bool (p1.Version == 0))] ?_
   refine OW.split 65 rfl (fun hc252 => ?_) (fun hc252 => ?_)
   ·have ho251 := ite_t ho251 hc252
    refine pu 6 [(4, .bool true)] (OW.nil rfl ?_)
    obtain rfl := inj ho251
    exact QW.meet (fun a ha => ⟨S0, ha.ag, hst.keep [0] rfl⟩)
   have ho251 := ite_f ho251 hc252
   refine pu 2 [(66, Pt b1), (67, .pointer (some ⟨b4, 7, none⟩))] ?_
   refine OW.ld rfl rfl rfl rfl (by kernel_rfl) (hst.blk 1 rfl rfl) ?_
   obtain ⟨r253, hr254, ho251⟩ := bs ho251
   refine OW.fn rfl rfl rfl rfl (by kernel_rfl) (audit_grace_known_ok _ (Pt b1) S0 p0 p1.Prog r253 hr254 (hst.part [0] rfl)) ?_
   rintro e w255 ⟨S257, rfl, hst256⟩
   refine ⟨_, rfl, ?_⟩
   have hst := hst.join (idx := [0]) (rest := [1]) rfl hst256
   refine pu 2 [(4, .bool r253)] (OW.nil rfl ?_)
   obtain rfl := inj ho251
   exact QW.meet (fun a ha => ⟨S257, ha.ag, hst.keep [0] rfl⟩)
  rintro a w1 ⟨S249, ha, hst⟩
  refine CW.go ?_ ha
  refine CW.ret (QW.block_ret (QW.then_ret ?_))
  obtain rfl := inj hF
  refine QW.ret1 rfl rfl ?_
  exact ⟨S249, rfl, hst.keep [0] rfl⟩
 refine rg ?_
 refine pu 2 [(71, .bool (p1.What == 6))] (nx ?_)
 refine br ((p1.What == 6)) hF (fun hF hc258 => ?_) (fun hF hc258 => ?_)
 ·refine CW.seq ?_
  obtain ⟨v259, S260, v261, S262, v263, S264, hst⟩ := hst.openQ3 0 rfl rfl rfl rfl
  have hst := hst.toRow1 2 rfl
  have hst := hst.toRow1 3 rfl
  obtain ⟨r265, rfl, hst⟩ := hst.toMF1 4 rfl
  obtain ⟨l266, a267, c268, rfl⟩ := hst.len 2 rfl
  obtain ⟨l269, a270, c271, rfl⟩ := hst.len 3 rfl
  have hst : St _ _ _ [blkI b1 98 [.slice a267 (p0.loaded).length c268, .slice a270 (p0.retired).length c271, .map (some r265)], _, _, _, _] := hst
  refine CW.tail 8 (by kernel_rfl) (by kernel_rfl) ?_
  intro w275 hch276
  have hst := hst.same hch276
  refine OS.pure 3 [(75, .pointer (some ⟨b1, 2, none⟩))] rfl (by kernel_rfl) ?_
  refine OS.ld rfl rfl rfl rfl rfl (by kernel_rfl) (hst.blk 0 rfl rfl) ?_
  refine OS.pure 1 [(77, .pointer (some ⟨b4, 1, none⟩))] rfl (by kernel_rfl) ?_
  refine OS.ld rfl rfl rfl rfl rfl (by kernel_rfl) (hst.blk 1 rfl rfl) ?_
  refine OS.pure 1 [(79, .pointer (some ⟨b4, 7, none⟩))] rfl (by kernel_rfl) ?_
  refine OS.ld rfl rfl rfl rfl rfl (by kernel_rfl) (hst.blk 1 rfl rfl) ?_
  refine OS.on ?_
  refine OW.mput (tk := 3) (te := 3) (kd := .i64) (val := Value.int .i64) hst 4 rfl rfl rfl rfl rfl p1.Prog rfl (by kernel_rfl) (by kernel_rfl) ?_
  intro w277 hst
  refine nx (rg ?_)
  refine pu 2 [(81, Pt b1), (82, .pointer (some ⟨b4, 7, none⟩))] ?_
  refine OW.ld rfl rfl rfl rfl (by kernel_rfl) (hst.blk 1 rfl rfl) ?_
  have hst := hst.toIt 2 rfl (fun _ => rfl) (by decide)
  have hst := hst.toIt 3 rfl (fun _ => rfl) (by decide)
  have hst := hst.ofMF 4 rfl
  obtain ⟨S284, hst⟩ := hst.shutP3 R_t98 rfl 0 2 3 4 [1] rfl rfl rfl rfl rfl (audit_grace.mk p0.loaded p0.retired (mput p0.in_ p1.Task p1.Prog)) rfl rfl
  obtain ⟨r285, hr286, hF⟩ := bs hF
  refine OW.fn rfl rfl rfl rfl (by kernel_rfl) (audit_grace_known_ok _ (Pt b1) S284 (audit_grace.mk p0.loaded p0.retired (mput p0.in_ p1.Task p1.Prog)) p1.Prog r285 hr286 (hst.part [1] rfl)) ?_
  rintro e w287 ⟨S289, rfl, hst288⟩
  refine ⟨_, rfl, ?_⟩
  have hst := hst.join (idx := [1]) (rest := [0]) rfl hst288
  refine pu 1 [(4, .bool r285)] (nx (CW.ret (QW.block_ret (QW.then_ret ?_))))
  obtain rfl := inj hF
  refine QW.ret1 rfl rfl ?_
  exact ⟨S289, rfl, hst.keep [0] rfl⟩
 refine CW.seq (rg ?_)
 refine pu 2 [(85, .bool (p1.What == 7))] (nx ?_)
 obtain ⟨o293, ho294, hF⟩ := bs hF
 refine CW.cutK (fun a w1 => Rep 111 [(0, Pt b1), (3, Pt b4), (8, I p1.What), (85, .bool o293)] a ∧ St w (fp [itI R_t71 [Pt b1] S0 p0]) w1 [itI R_t71 [Pt b1] S0 p0, blkI b4 48 [I p1.What, I p1.Task, I p1.From, I p1.Cmd, I p1.Tag, I p1.Event, I p1.Hook, I p1.Prog, I p1.Version, I p1.Pc, I p1.Item.Map, I p1.Item.Op, U p1.Item.Key, U p1.Item.Val, I p1.Res.E, .bool p1.Res.Found, U p1.Res.Val, .bool p1.Res.Out, U p1.Res.OutKey, U p1.Res.OutVal, U p1.Val, I p1.E]]) ?_ ?_
 ·refine br ((p1.What == 7)) ho294 (fun ho294 hc295 => ?_) (fun ho294 hc295 => ?_)
  ·refine CW.skip ?_
   obtain rfl := inj ho294
   exact QW.meet (fun a ha => ⟨ha.ag, hst.keep [0, 1] rfl⟩)
  refine rg ?_
  refine pu 2 [(85, .bool (p1.What == 8))] (nx ?_)
  refine br ((p1.What == 8)) ho294 (fun ho294 hc296 => ?_) (fun ho294 hc296 => ?_)
  ·refine CW.skip ?_
   obtain rfl := inj ho294
   exact QW.meet (fun a ha => ⟨ha.ag, hst.keep [0, 1] rfl⟩)
  refine rg ?_
  refine pu 2 [(85, .bool (p1.What == 16))] (nx ?_)
  refine br ((p1.What == 16)) ho294 (fun ho294 hc297 => ?_) (fun ho294 hc297 => ?_)
  ·refine CW.skip ?_
   obtain rfl := inj ho294
   exact QW.meet (fun a ha => ⟨ha.ag, hst.keep [0, 1] rfl⟩)
  refine CW.region ?_
  refine pu 2 [(85, .bool (p1.What == 17))] (OW.nil rfl ?_)
  obtain rfl := inj ho294
  exact QW.meet (fun a ha => ⟨ha.ag, hst.keep [0, 1] rfl⟩)
 rintro a w1 ⟨ha, hst⟩
 refine CW.go ?_ ha
 refine br (o293) hF (fun hF hc298 => ?_) (fun hF hc298 => ?_)
 ·refine rg ?_
  refine pu 2 [(90, Pt b1), (91, .pointer (some ⟨b4, 7, none⟩))] ?_
  refine OW.ld rfl rfl rfl rfl (by kernel_rfl) (hst.blk 1 rfl rfl) ?_
  obtain ⟨r304, hr305, hF⟩ := bs hF
  refine OW.fn rfl rfl rfl rfl (by kernel_rfl) (audit_grace_known_ok _ (Pt b1) S0 p0 p1.Prog r304 hr305 (hst.part [0] rfl)) ?_
  rintro e w306 ⟨S308, rfl, hst307⟩
  refine ⟨_, rfl, ?_⟩
  have hst := hst.join (idx := [0]) (rest := [1]) rfl hst307
  refine pu 1 [(4, .bool r304)] (nx (CW.ret (QW.block_ret (QW.then_ret ?_))))
  obtain rfl := inj hF
  refine QW.ret1 rfl rfl ?_
  exact ⟨S308, rfl, hst.keep [0] rfl⟩
 refine rg ?_
 refine pu 2 [(94, .bool (p1.What == 9))] (nx ?_)
 refine br ((p1.What == 9)) hF (fun hF hc309 => ?_) (fun hF hc309 => ?_)
 ·refine CW.seq ?_
  obtain ⟨v310, S311, v312, S313, v314, S315, hst⟩ := hst.openQ3 0 rfl rfl rfl rfl
  have hst := hst.toRow1 2 rfl
  have hst := hst.toRow1 3 rfl
  obtain ⟨r316, rfl, hst⟩ := hst.toMF1 4 rfl
  obtain ⟨l317, a318, c319, rfl⟩ := hst.len 2 rfl
  obtain ⟨l320, a321, c322, rfl⟩ := hst.len 3 rfl
  have hst : St _ _ _ [blkI b1 98 [.slice a318 (p0.loaded).length c319, .slice a321 (p0.retired).length c322, .map (some r316)], _, _, _, _] := hst
  refine CW.tail 6 (by kernel_rfl) (by kernel_rfl) ?_
  intro w326 hch327
  have hst := hst.same hch327
  refine OS.pure 3 [(98, .pointer (some ⟨b1, 2, none⟩))] rfl (by kernel_rfl) ?_
  refine OS.ld rfl rfl rfl rfl rfl (by kernel_rfl) (hst.blk 0 rfl rfl) ?_
  refine OS.pure 1 [(100, .pointer (some ⟨b4, 1, none⟩))] rfl (by kernel_rfl) ?_
  refine OS.ld rfl rfl rfl rfl rfl (by kernel_rfl) (hst.blk 1 rfl rfl) ?_
  refine OS.on ?_
  refine OW.mdel (tk := 3) (te := 3) (kd := .i64) hst 4 rfl rfl rfl rfl rfl rfl (by kernel_rfl) (by kernel_rfl) ?_
  intro w328 hst
  refine nx (CW.seq ?_)
  obtain ⟨o338, ho339, hF⟩ := bs hF
  refine CW.cutK (fun a w1 => ∃ (S337 : List Nat), Rep 111 [(4, .bool o338)] a ∧ St w (fp [itI R_t71 [Pt b1] S0 p0]) w1 [itI R_t71 [Pt b1] S337 (audit_grace.mk p0.loaded p0.retired (mdel p0.in_ p1.Task))]) ?_ ?_
  ·refine CW.region ?_
   refine pu 1 [(102, .pointer (some ⟨b4, 8, none⟩))] ?_
   refine OW.ld rfl rfl rfl rfl (by kernel_rfl) (hst.blk 1 rfl rfl) ?_
   refine pu 2 [(105, .bool (p1.Version == 0))] ?_
   refine OW.split 105 rfl (fun hc340 => ?_) (fun hc340 => ?_)
   ·have ho339 := ite_t ho339 hc340
    refine pu 6 [(4, .bool true)] (OW.nil rfl ?_)
    have hst := hst.toIt 2 rfl (fun _ => rfl) (by decide)
    have hst := hst.toIt 3 rfl (fun _ => rfl) (by decide)
    have hst := hst.ofMF 4 rfl
    obtain ⟨S341, hst⟩ := hst.shutP3 R_t98 rfl 0 2 3 4 [1] rfl rfl rfl rfl rfl (audit_grace.mk p0.loaded p0.retired (mdel p0.in_ p1.Task)) rfl rfl
    obtain rfl := inj ho339
    exact QW.meet (fun a ha => ⟨S341, ha.ag, hst.keep [1] rfl⟩)
   have ho339 := ite_f ho339 hc340
   refine pu 2 [(106, Pt b1), (107, .pointer (some ⟨b4, 7, none⟩))] ?_
   refine OW.ld rfl rfl rfl rfl (by kernel_rfl) (hst.blk 1 rfl rfl) ?_
   have hst := hst.toIt 2 rfl (fun _ => rfl) (by decide)
   have hst := hst.toIt 3 rfl (fun _ => rfl) (by decide)
   have hst := hst.ofMF 4 rfl
   obtain ⟨S342, hst⟩ := hst.shutP3 R_t98 rfl 0 2 3 4 [1] rfl rfl rfl rfl rfl (audit_grace.mk p0.loaded p0.retired (mdel p0.in_ p1.Task)) rfl rfl
   obtain ⟨r343, hr344, ho339⟩ := bs ho339
   refine OW.fn rfl rfl rfl rfl (by kernel_rfl) (audit_grace_known_ok _ (Pt b1) S342 (audit_grace.mk p0.loaded p0.retired (mdel p0.in_ p1.Task)) p1.Prog r343 hr344 (hst.part [1] rfl)) ?_
   rintro e w345 ⟨S347, rfl, hst346⟩
   refine ⟨_, rfl, ?_⟩
   have hst := hst.join (idx := [1]) (rest := [0]) rfl hst346
   refine pu 2 [(4, .bool r343)] (OW.nil rfl ?_)
   obtain rfl := inj ho339
   exact QW.meet (fun a ha => ⟨S347, ha.ag, hst.keep [0] rfl⟩)
  rintro a w1 ⟨S337, ha, hst⟩
  refine CW.go ?_ ha
  refine CW.ret (QW.block_ret (QW.then_ret ?_))
  obtain rfl := inj hF
  refine QW.ret1 rfl rfl ?_
  exact ⟨S337, rfl, hst.keep [0] rfl⟩
 refine CW.skip (QW.block_normal (QW.next (rg ?_)))
 refine pu 1 [(4, .bool true)] (nx (CW.ret ?_))
 obtain rfl := inj hF
 refine QW.ret1 rfl rfl ?_
 exact ⟨S0, rfl, hst.keep [0] rfl⟩
theorem I_audit_rule_right_iv (w : World) (fu : Nat) (v0 : Value) (S0 : List Nat) (p0 : I_audit_rule) (p1 : api_Entry) (r : Bool × I_audit_rule) (hF : I_audit_rule_right fu p0 p1 = some r)
    (hst : St w (fp [itI R_t78 [v0] S0 p0]) w [itI R_t78 [v0] S0 p0]) :
    InvC Try.prog v0 "tappet/audit.right" [.agg [I p1.What, I p1.Task, I p1.From, I p1.Cmd, I p1.Tag, I p1.Event, I p1.Hook, I p1.Prog, I p1.Version, I p1.Pc, I p1.Item.Map, I p1.Item.Op, U p1.Item.Key, U p1.Item.Val, I p1.Res.E, .bool p1.Res.Found, U p1.Res.Val, .bool p1.Res.Out, U p1.Res.OutKey, U p1.Res.OutVal, U p1.Val, I p1.E].toArray] w (fun e w' => ∃ (s0 : List Nat), e = .returned (.bool r.1) ∧ St w (fp [itI R_t78 [v0] S0 p0]) w' [itI R_t78 [v0] s0 r.2]) := by
 unfold I_audit_rule_right at hF
 rcases p0 with x | (x | (x | (x | x)))
 ·have hst := hst.sumL 0 rfl
  obtain ⟨u, rfl, hst⟩ := hst.untag 0 rfl
  have hst := hst.toN1 0 rfl
  obtain ⟨q, hq, hF⟩ := bs hF
  cases hF
  refine ⟨58, [u, .agg [I p1.What, I p1.Task, I p1.From, I p1.Cmd, I p1.Tag, I p1.Event, I p1.Hook, I p1.Prog, I p1.Version, I p1.Pc, I p1.Item.Map, I p1.Item.Op, U p1.Item.Key, U p1.Item.Val, I p1.Res.E, .bool p1.Res.Found, U p1.Res.Val, .bool p1.Res.Out, U p1.Res.OutKey, U p1.Res.OutVal, U p1.Val, I p1.E].toArray], inv_of (by kernel_rfl), ?_⟩
  refine (audit_maps_right_ok w fu (u) S0 x p1 q hq (hst : St w (fp [nI 73 R_t73 u S0 x none]) w [nI 73 R_t73 u S0 x none])).mono ?_
  rintro e w' ⟨s0, rfl, hst⟩
  have hst := hst.ofN 0 rfl (by decide)
  have hst := hst.tag 51 0 rfl
  have hst := hst.ofL (sumP (tagP 63 R_t63) (sumP (tagP 67 R_t67) (sumP (tagP 69 R_t69) (tagP 71 R_t71) rfl rfl) rfl rfl) rfl rfl) rfl rfl 0 rfl
  exact ⟨s0, rfl, hst⟩
 ·have hst := hst.sumR 0 rfl
  have hst := hst.sumL 0 rfl
  obtain ⟨u, rfl, hst⟩ := hst.untag 0 rfl
  obtain ⟨b, rfl⟩ := hst.fptr 0 rfl
  obtain ⟨q, hq, hF⟩ := bs hF
  cases hF
  refine ⟨63, [Pt b, .agg [I p1.What, I p1.Task, I p1.From, I p1.Cmd, I p1.Tag, I p1.Event, I p1.Hook, I p1.Prog, I p1.Version, I p1.Pc, I p1.Item.Map, I p1.Item.Op, U p1.Item.Key, U p1.Item.Val, I p1.Res.E, .bool p1.Res.Found, U p1.Res.Val, .bool p1.Res.Out, U p1.Res.OutKey, U p1.Res.OutVal, U p1.Val, I p1.E].toArray], inv_of (by kernel_rfl), ?_⟩
  refine (audit_calls_right_ok w (Pt b) S0 x p1 q hq (hst : St w (fp [itI R_t63 [Pt b] S0 x]) w [itI R_t63 [Pt b] S0 x])).mono ?_
  rintro e w' ⟨s0, rfl, hst⟩
  have hst := hst.tag 63 0 rfl
  have hst := hst.ofL (sumP (tagP 67 R_t67) (sumP (tagP 69 R_t69) (tagP 71 R_t71) rfl rfl) rfl rfl) rfl rfl 0 rfl
  have hst := hst.ofR (tagP 51 R_t51) rfl rfl 0 rfl
  exact ⟨s0, rfl, hst⟩
 ·have hst := hst.sumR 0 rfl
  have hst := hst.sumR 0 rfl
  have hst := hst.sumL 0 rfl
  obtain ⟨u, rfl, hst⟩ := hst.untag 0 rfl
  obtain ⟨b, rfl⟩ := hst.fptr 0 rfl
  obtain ⟨q, hq, hF⟩ := bs hF
  cases hF
  refine ⟨64, [Pt b, .agg [I p1.What, I p1.Task, I p1.From, I p1.Cmd, I p1.Tag, I p1.Event, I p1.Hook, I p1.Prog, I p1.Version, I p1.Pc, I p1.Item.Map, I p1.Item.Op, U p1.Item.Key, U p1.Item.Val, I p1.Res.E, .bool p1.Res.Found, U p1.Res.Val, .bool p1.Res.Out, U p1.Res.OutKey, U p1.Res.OutVal, U p1.Val, I p1.E].toArray], inv_of (by kernel_rfl), ?_⟩
  refine (audit_events_right_ok w (Pt b) S0 x p1 q hq (hst : St w (fp [itI R_t67 [Pt b] S0 x]) w [itI R_t67 [Pt b] S0 x])).mono ?_
  rintro e w' ⟨s0, rfl, hst⟩
  have hst := hst.tag 67 0 rfl
  have hst := hst.ofL (sumP (tagP 69 R_t69) (tagP 71 R_t71) rfl rfl) rfl rfl 0 rfl
  have hst := hst.ofR (tagP 63 R_t63) rfl rfl 0 rfl
  have hst := hst.ofR (tagP 51 R_t51) rfl rfl 0 rfl
  exact ⟨s0, rfl, hst⟩
 ·have hst := hst.sumR 0 rfl
  have hst := hst.sumR 0 rfl
  have hst := hst.sumR 0 rfl
  have hst := hst.sumL 0 rfl
  obtain ⟨u, rfl, hst⟩ := hst.untag 0 rfl
  obtain ⟨b, rfl⟩ := hst.fptr 0 rfl
  obtain ⟨q, hq, hF⟩ := bs hF
  cases hF
  refine ⟨66, [Pt b, .agg [I p1.What, I p1.Task, I p1.From, I p1.Cmd, I p1.Tag, I p1.Event, I p1.Hook, I p1.Prog, I p1.Version, I p1.Pc, I p1.Item.Map, I p1.Item.Op, U p1.Item.Key, U p1.Item.Val, I p1.Res.E, .bool p1.Res.Found, U p1.Res.Val, .bool p1.Res.Out, U p1.Res.OutKey, U p1.Res.OutVal, U p1.Val, I p1.E].toArray], inv_of (by kernel_rfl), ?_⟩
  refine (audit_runs_right_ok w (Pt b) S0 x p1 q hq (hst : St w (fp [itI R_t69 [Pt b] S0 x]) w [itI R_t69 [Pt b] S0 x])).mono ?_
  rintro e w' ⟨s0, rfl, hst⟩
  have hst := hst.tag 69 0 rfl
  have hst := hst.ofL (tagP 71 R_t71) rfl rfl 0 rfl
  have hst := hst.ofR (tagP 67 R_t67) rfl rfl 0 rfl
  have hst := hst.ofR (tagP 63 R_t63) rfl rfl 0 rfl
  have hst := hst.ofR (tagP 51 R_t51) rfl rfl 0 rfl
  exact ⟨s0, rfl, hst⟩
 have hst := hst.sumR 0 rfl
 have hst := hst.sumR 0 rfl
 have hst := hst.sumR 0 rfl
 have hst := hst.sumR 0 rfl
 obtain ⟨u, rfl, hst⟩ := hst.untag 0 rfl
 obtain ⟨b, rfl⟩ := hst.fptr 0 rfl
 obtain ⟨q, hq, hF⟩ := bs hF
 cases hF
 refine ⟨69, [Pt b, .agg [I p1.What, I p1.Task, I p1.From, I p1.Cmd, I p1.Tag, I p1.Event, I p1.Hook, I p1.Prog, I p1.Version, I p1.Pc, I p1.Item.Map, I p1.Item.Op, U p1.Item.Key, U p1.Item.Val, I p1.Res.E, .bool p1.Res.Found, U p1.Res.Val, .bool p1.Res.Out, U p1.Res.OutKey, U p1.Res.OutVal, U p1.Val, I p1.E].toArray], inv_of (by kernel_rfl), ?_⟩
 refine (audit_grace_right_ok w (Pt b) S0 x p1 q hq (hst : St w (fp [itI R_t71 [Pt b] S0 x]) w [itI R_t71 [Pt b] S0 x])).mono ?_
 rintro e w' ⟨s0, rfl, hst⟩
 have hst := hst.tag 71 0 rfl
 have hst := hst.ofR (tagP 69 R_t69) rfl rfl 0 rfl
 have hst := hst.ofR (tagP 67 R_t67) rfl rfl 0 rfl
 have hst := hst.ofR (tagP 63 R_t63) rfl rfl 0 rfl
 have hst := hst.ofR (tagP 51 R_t51) rfl rfl 0 rfl
 exact ⟨s0, rfl, hst⟩
end Go.Proofs.Ytpchniebplpboaa

/- Written by a program (wip/gen): the walks: each Go function returns what its plain function computes. -/
import Derived.Test.YtalllncanpcmfaaDoorProg
import Derived.Test.YtalllncanpcmfaaDoorF1
import Derived.Test.YtalllncanpcmfaaDoorOpen
import Derived.Test.YtalllncanpcmfaaDoorPart
import Derived.Test.YtalllncanpcmfaaDoorExt
import Derived.Test.YtalllncanpcmfaaDoorSh
import Derived.Test.YtalllncanpcmfaaDoorBld
import Derived.Test.YtalllncanpcmfaaDoorO1
import Derived.Test.YtalllncanpcmfaaDoorW1p1
namespace Go.Proofs.YtalllncanpcmfaaDoor
open Go.Sx
set_option linter.unusedVariables false

set_option maxRecDepth 10000 in
set_option maxHeartbeats 4000000 in
theorem tappetref26_set_ok (w : World) (fu : Nat) (p0 : api_Entry) (p1 : Int) (p2 : ByteArray) (r : api_Entry × Bool) (hF : tappetref26_set fu p0 p1 p2 = some r)
    (hst : St w (fp []) w []) :
    Calls Tryd.prog 44 [.agg [.int .i64 p0.What, .int .i64 p0.Task, .int .i64 p0.From, .int .i64 p0.Cmd, .int .i64 p0.Tag, .int .i64 p0.Event, .int .i64 p0.Hook, .int .i64 p0.Prog, .int .i64 p0.Version, .int .i64 p0.Pc, .int .i64 p0.Item.Map, .int .i64 p0.Item.Op, .int .u64 p0.Item.Key, .int .u64 p0.Item.Val, .int .i64 p0.Res.E, .bool p0.Res.Found, .int .u64 p0.Res.Val, .bool p0.Res.Out, .int .u64 p0.Res.OutKey, .int .u64 p0.Res.OutVal, .int .u64 p0.Val, .int .i64 p0.E].toArray, .int .u8 p1, .string p2].toArray w (fun e w' => e = .returned (.tuple #[.agg [.int .i64 r.1.What, .int .i64 r.1.Task, .int .i64 r.1.From, .int .i64 r.1.Cmd, .int .i64 r.1.Tag, .int .i64 r.1.Event, .int .i64 r.1.Hook, .int .i64 r.1.Prog, .int .i64 r.1.Version, .int .i64 r.1.Pc, .int .i64 r.1.Item.Map, .int .i64 r.1.Item.Op, .int .u64 r.1.Item.Key, .int .u64 r.1.Item.Val, .int .i64 r.1.Res.E, .bool r.1.Res.Found, .int .u64 r.1.Res.Val, .bool r.1.Res.Out, .int .u64 r.1.Res.OutKey, .int .u64 r.1.Res.OutVal, .int .u64 r.1.Val, .int .i64 r.1.E].toArray, .bool r.2]) ∧ St w (fp []) w' []) := by
 refine CW.start (N := 126) Tryd.func44 rfl rfl rfl ?_
 refine CW.seq ?_
 refine CW.region ?_
 refine OW.box hst rfl rfl rfl rfl [.int .i64 p0.What, .int .i64 p0.Task, .int .i64 p0.From, .int .i64 p0.Cmd, .int .i64 p0.Tag, .int .i64 p0.Event, .int .i64 p0.Hook, .int .i64 p0.Prog, .int .i64 p0.Version, .int .i64 p0.Pc, .int .i64 p0.Item.Map, .int .i64 p0.Item.Op, .int .u64 p0.Item.Key, .int .u64 p0.Item.Val, .int .i64 p0.Res.E, .bool p0.Res.Found, .int .u64 p0.Res.Val, .bool p0.Res.Out, .int .u64 p0.Res.OutKey, .int .u64 p0.Res.OutVal, .int .u64 p0.Val, .int .i64 p0.E] rfl ?_
 intro b5 w6 hst
 refine OW.alloc hst rfl rfl rfl [.int .i64 0, .int .i64 0, .int .i64 0, .int .i64 0, .int .i64 0, .int .i64 0, .int .i64 0, .int .i64 0, .int .i64 0, .int .i64 0, .int .i64 0, .int .i64 0, .int .u64 0, .int .u64 0, .int .i64 0, .bool false, .int .u64 0, .bool false, .int .u64 0, .int .u64 0, .int .u64 0, .int .i64 0] (by kernel_rfl) ?_
 intro b7 w8 hst
 refine OW.pure 1 [] (by kernel_rfl) ?_
 refine OW.nil rfl ?_
 refine QW.next ?_
 refine CW.seq ?_
 refine CW.seq ?_
 obtain ⟨o12, ho13, hF⟩ := bind_some' hF
 refine CW.cutK (fun a w1 => Rep 126 [(1, .int .u8 p1), (2, .string p2), (3, .pointer (some ⟨b5, 0, none⟩)), (6, .pointer (some ⟨b7, 0, none⟩)), (21, .bool o12)] a ∧ St w (fp []) w1 [itI R_t88 [.pointer (some ⟨b5, 0, none⟩)] ([b5]) p0, itI R_t88 [.pointer (some ⟨b7, 0, none⟩)] ([b7]) (api_Entry.mk 0 0 0 0 0 0 0 0 0 0 (api_Item.mk 0 0 0 0) (api_Res.mk 0 false 0 false 0 0) 0 0)]) ?_ ?_
 ·refine CW.region ?_
  refine OW.pure 4 [(16, .bool (decide ((p2.size : Int) < 2)))] (by kernel_rfl) ?_
  refine OW.split 16 rfl (fun hc14 => ?_) (fun hc14 => ?_)
  ·have ho13 := ite_t ho13 hc14
   refine OW.pure 5 [(21, .bool true)] (by kernel_rfl) ?_
   refine OW.nil rfl ?_
   have hst := hst.shutP0 (enc := enc_api_Entry) (sz := 22) (he := fun _ => rfl) 0 rfl p0 rfl
   have hst := hst.shutP0 (enc := enc_api_Entry) (sz := 22) (he := fun _ => rfl) 1 rfl (api_Entry.mk 0 0 0 0 0 0 0 0 0 0 (api_Item.mk 0 0 0 0) (api_Res.mk 0 false 0 false 0 0) 0 0) rfl
   obtain rfl := Option.some.inj ho13
   exact QW.meet (fun a ha => ⟨ha.agrees (by kernel_rfl), hst.keep [0, 1] rfl⟩)
  ·have ho13 := ite_f ho13 hc14
   refine OW.pure 1 [(17, .string p2)] (by kernel_rfl) ?_
   obtain ⟨c15, hx16, ho13⟩ := bind_some' ho13
   refine OW.op (v := .int .u8 c15) rfl rfl rfl rfl (fun a ha => sidx_run rfl rfl rfl (by kernel_rfl) hx16 a _ ha) ?_
   refine OW.pure 3 [(21, .bool (c15 != p1))] (by kernel_rfl) ?_
   refine OW.nil rfl ?_
   have hst := hst.shutP0 (enc := enc_api_Entry) (sz := 22) (he := fun _ => rfl) 0 rfl p0 rfl
   have hst := hst.shutP0 (enc := enc_api_Entry) (sz := 22) (he := fun _ => rfl) 1 rfl (api_Entry.mk 0 0 0 0 0 0 0 0 0 0 (api_Item.mk 0 0 0 0) (api_Res.mk 0 false 0 false 0 0) 0 0) rfl
   obtain rfl := Option.some.inj ho13
   exact QW.meet (fun a ha => ⟨ha.agrees (by kernel_rfl), hst.keep [0, 1] rfl⟩)
 ·rintro a w1 ⟨ha, hst⟩
  refine CW.go ?_ ha
  rcases Bool.eq_false_or_eq_true (o12) with hc17 | hc17
  ·have hF := ite_t hF hc17
   refine CW.cond_t rfl hc17 ?_
   refine CW.seq ?_
   have hst := hst.openQ0 0 rfl
   have hst := hst.openQ0 1 rfl
   refine CW.region ?_
   refine OW.ldN (cs := [.int .i64 p0.What, .int .i64 p0.Task, .int .i64 p0.From, .int .i64 p0.Cmd, .int .i64 p0.Tag, .int .i64 p0.Event, .int .i64 p0.Hook, .int .i64 p0.Prog, .int .i64 p0.Version, .int .i64 p0.Pc, .int .i64 p0.Item.Map, .int .i64 p0.Item.Op, .int .u64 p0.Item.Key, .int .u64 p0.Item.Val, .int .i64 p0.Res.E, .bool p0.Res.Found, .int .u64 p0.Res.Val, .bool p0.Res.Out, .int .u64 p0.Res.OutKey, .int .u64 p0.Res.OutVal, .int .u64 p0.Val, .int .i64 p0.E]) rfl rfl rfl rfl (by kernel_rfl) (by kernel_rfl) (hst.blkN 0 rfl 0 22) ?_
   refine OW.stB hst 1 rfl rfl rfl rfl rfl (by kernel_rfl) rfl rfl [.int .i64 p0.What, .int .i64 p0.Task, .int .i64 p0.From, .int .i64 p0.Cmd, .int .i64 p0.Tag, .int .i64 p0.Event, .int .i64 p0.Hook, .int .i64 p0.Prog, .int .i64 p0.Version, .int .i64 p0.Pc, .int .i64 p0.Item.Map, .int .i64 p0.Item.Op, .int .u64 p0.Item.Key, .int .u64 p0.Item.Val, .int .i64 p0.Res.E, .bool p0.Res.Found, .int .u64 p0.Res.Val, .bool p0.Res.Out, .int .u64 p0.Res.OutKey, .int .u64 p0.Res.OutVal, .int .u64 p0.Val, .int .i64 p0.E] rfl ?_
   intro w19 hst
   refine OW.pure 1 [(7, .bool false)] (by kernel_rfl) ?_
   refine OW.nil rfl ?_
   refine QW.next ?_
   refine CW.ret ?_
   refine QW.then_ret ?_
   obtain rfl := Option.some.inj hF
   refine QW.ret_ct rfl rfl (run_loadN (cs := [.int .i64 p0.What, .int .i64 p0.Task, .int .i64 p0.From, .int .i64 p0.Cmd, .int .i64 p0.Tag, .int .i64 p0.Event, .int .i64 p0.Hook, .int .i64 p0.Prog, .int .i64 p0.Version, .int .i64 p0.Pc, .int .i64 p0.Item.Map, .int .i64 p0.Item.Op, .int .u64 p0.Item.Key, .int .u64 p0.Item.Val, .int .i64 p0.Res.E, .bool p0.Res.Found, .int .u64 p0.Res.Val, .bool p0.Res.Out, .int .u64 p0.Res.OutKey, .int .u64 p0.Res.OutVal, .int .u64 p0.Val, .int .i64 p0.E]) (by kernel_rfl) (by kernel_rfl) (hst.blkN 1 rfl 0 22)) rfl ?_
   exact ⟨rfl, hst.keep [] rfl⟩
  ·have hF := ite_f hF hc17
   refine CW.cond_f rfl hc17 ?_
   refine CW.skip ?_
   refine QW.next ?_
   refine CW.seq ?_
   refine CW.region ?_
   refine OW.pure 1 [(23, .string p2)] (by kernel_rfl) ?_
   obtain ⟨c22, hx23, hF⟩ := bind_some' hF
   refine OW.op (v := .int .u8 c22) rfl rfl rfl rfl (fun a ha => sidx_run rfl rfl rfl (by kernel_rfl) hx23 a _ ha) ?_
   refine OW.pure 2 [(8, .bool (c22 == 45))] (by kernel_rfl) ?_
   refine OW.nil rfl ?_
   refine QW.next ?_
   refine CW.seq ?_
   refine CW.region ?_
   refine OW.pure 1 [(9, .int .i64 1)] (by kernel_rfl) ?_
   refine OW.nil rfl ?_
   refine QW.next ?_
   refine CW.seq ?_
   refine CW.seq ?_
   refine CW.region ?_
   refine OW.pure 1 [(26, .bool (c22 == 45))] (by kernel_rfl) ?_
   refine OW.nil rfl ?_
   refine QW.next ?_
   obtain ⟨o25, ho26, hF⟩ := bind_some' hF
   refine CW.cutK (fun a w1 => Rep 126 [(1, .int .u8 p1), (2, .string p2), (3, .pointer (some ⟨b5, 0, none⟩)), (6, .pointer (some ⟨b7, 0, none⟩)), (8, .bool (c22 == 45)), (9, .int .i64 o25)] a ∧ St w (fp []) w1 [itI R_t88 [.pointer (some ⟨b5, 0, none⟩)] ([b5]) p0, itI R_t88 [.pointer (some ⟨b7, 0, none⟩)] ([b7]) (api_Entry.mk 0 0 0 0 0 0 0 0 0 0 (api_Item.mk 0 0 0 0) (api_Res.mk 0 false 0 false 0 0) 0 0)]) ?_ ?_
   ·rcases Bool.eq_false_or_eq_true ((c22 == 45)) with hc27 | hc27
    ·have ho26 := ite_t ho26 hc27
     refine CW.cond_t rfl hc27 ?_
     refine CW.region ?_
     refine OW.pure 1 [(9, .int .i64 2)] (by kernel_rfl) ?_
     refine OW.nil rfl ?_
     obtain rfl := Option.some.inj ho26
     exact QW.meet (fun a ha => ⟨ha.agrees (by kernel_rfl), hst.keep [0, 1] rfl⟩)
    ·have ho26 := ite_f ho26 hc27
     refine CW.cond_f rfl hc27 ?_
     refine CW.skip ?_
     obtain rfl := Option.some.inj ho26
     exact QW.meet (fun a ha => ⟨ha.agrees (by kernel_rfl), hst.keep [0, 1] rfl⟩)
   ·rintro a w1 ⟨ha, hst⟩
    refine CW.go ?_ ha
    refine CW.seq ?_
    refine CW.region ?_
    refine OW.pure 1 [(10, .int .u64 0)] (by kernel_rfl) ?_
    refine OW.nil rfl ?_
    refine QW.next ?_
    refine CW.seq ?_
    refine CW.seq ?_
    refine CW.region ?_
    refine OW.pure 2 [(11, .int .i64 o25)] (by kernel_rfl) ?_
    refine OW.nil rfl ?_
    refine QW.next ?_
    obtain ⟨o86, ho87, hF⟩ := bind_some' hF
    refine CW.cutK (fun a w1 => ∃ (t88 : Int), o86 = .inl t88 ∧ Rep 126 [(1, .int .u8 p1), (3, .pointer (some ⟨b5, 0, none⟩)), (6, .pointer (some ⟨b7, 0, none⟩)), (8, .bool (c22 == 45)), (10, .int .u64 t88)] a ∧ St w (fp []) w1 [itI R_t88 [.pointer (some ⟨b5, 0, none⟩)] ([b5]) p0, itI R_t88 [.pointer (some ⟨b7, 0, none⟩)] ([b7]) (api_Entry.mk 0 0 0 0 0 0 0 0 0 0 (api_Item.mk 0 0 0 0) (api_Res.mk 0 false 0 false 0 0) 0 0)]) ?_ ?_
    ·refine CW.block ?_
     refine CW.loop (fun n a w1 => ∃ (s128 : Int × Int), Rep 126 [(1, .int .u8 p1), (2, .string p2), (3, .pointer (some ⟨b5, 0, none⟩)), (6, .pointer (some ⟨b7, 0, none⟩)), (8, .bool (c22 == 45)), (10, .int .u64 s128.1), (11, .int .i64 s128.2)] a ∧ St w (fp []) w1 [itI R_t88 [.pointer (some ⟨b5, 0, none⟩)] ([b5]) p0, itI R_t88 [.pointer (some ⟨b7, 0, none⟩)] ([b7]) (api_Entry.mk 0 0 0 0 0 0 0 0 0 0 (api_Item.mk 0 0 0 0) (api_Res.mk 0 false 0 false 0 0) 0 0)] ∧ loop (tappetref26_set_l1 p0 p2) n s128 = some o86) fu (fun a ha => ⟨(0, o25), ha.agrees (by kernel_rfl), hst.keep [0, 1] rfl, ho87⟩) ?_
     rintro n126 a w1 ⟨s128, ha, hst, hl127⟩
     rcases n126 with _ | n126
     ·exact (loop_zero hl127).elim
     refine CW.go ?_ ha
     refine CW.seq ?_
     refine CW.seq ?_
     refine CW.region ?_
     refine OW.pure 4 [(31, .bool (decide (s128.2 < (p2.size : Int))))] (by kernel_rfl) ?_
     refine OW.nil rfl ?_
     refine QW.next ?_
     rcases Bool.eq_false_or_eq_true (decide (s128.2 < (p2.size : Int))) with hc129 | hc129
     ·have hl127 := ite_t hl127 hc129
      refine CW.cond_t rfl hc129 ?_
      refine CW.skip ?_
      refine QW.next ?_
      refine CW.seq ?_
      refine CW.block ?_
      refine CW.seq ?_
      refine CW.seq ?_
      obtain ⟨o135, ho136, hl127⟩ := bind_some' hl127
      refine CW.cutK (fun a w1 => Rep 126 [(1, .int .u8 p1), (2, .string p2), (3, .pointer (some ⟨b5, 0, none⟩)), (6, .pointer (some ⟨b7, 0, none⟩)), (8, .bool (c22 == 45)), (10, .int .u64 s128.1), (11, .int .i64 s128.2), (43, .bool o135)] a ∧ St w (fp []) w1 [itI R_t88 [.pointer (some ⟨b5, 0, none⟩)] ([b5]) p0, itI R_t88 [.pointer (some ⟨b7, 0, none⟩)] ([b7]) (api_Entry.mk 0 0 0 0 0 0 0 0 0 0 (api_Item.mk 0 0 0 0) (api_Res.mk 0 false 0 false 0 0) 0 0)]) ?_ ?_
      ·refine CW.region ?_
       refine OW.pure 2 [(34, .string p2), (35, .int .i64 s128.2)] (by kernel_rfl) ?_
       obtain ⟨c137, hx138, ho136⟩ := bind_some' ho136
       refine OW.op (v := .int .u8 c137) rfl rfl rfl rfl (fun a ha => sidx_run rfl rfl rfl (by kernel_rfl) hx138 a _ ha) ?_
       refine OW.pure 2 [(38, .bool (decide (c137 < 48)))] (by kernel_rfl) ?_
       refine OW.split 38 rfl (fun hc139 => ?_) (fun hc139 => ?_)
       ·have ho136 := ite_t ho136 hc139
        refine OW.pure 5 [(43, .bool true)] (by kernel_rfl) ?_
        refine OW.nil rfl ?_
        obtain rfl := Option.some.inj ho136
        exact QW.meet (fun a ha => ⟨ha.agrees (by kernel_rfl), hst.keep [0, 1] rfl⟩)
       ·have ho136 := ite_f ho136 hc139
        refine OW.pure 2 [(39, .string p2), (40, .int .i64 s128.2)] (by kernel_rfl) ?_
        refine OW.op (v := .int .u8 c137) rfl rfl rfl rfl (fun a ha => sidx_run rfl rfl rfl (by kernel_rfl) hx138 a _ ha) ?_
        refine OW.pure 2 [(43, .bool (decide (c137 > 57)))] (by kernel_rfl) ?_
        refine OW.nil rfl ?_
        obtain rfl := Option.some.inj ho136
        exact QW.meet (fun a ha => ⟨ha.agrees (by kernel_rfl), hst.keep [0, 1] rfl⟩)
      ·rintro a w1 ⟨ha, hst⟩
       refine CW.go ?_ ha
       rcases Bool.eq_false_or_eq_true (o135) with hc140 | hc140
       ·have hl127 := ite_t hl127 hc140
        refine CW.cond_t rfl hc140 ?_
        refine CW.seq ?_
        have hst := hst.openQ0 0 rfl
        have hst := hst.openQ0 1 rfl
        refine CW.region ?_
        refine OW.ldN (cs := [.int .i64 p0.What, .int .i64 p0.Task, .int .i64 p0.From, .int .i64 p0.Cmd, .int .i64 p0.Tag, .int .i64 p0.Event, .int .i64 p0.Hook, .int .i64 p0.Prog, .int .i64 p0.Version, .int .i64 p0.Pc, .int .i64 p0.Item.Map, .int .i64 p0.Item.Op, .int .u64 p0.Item.Key, .int .u64 p0.Item.Val, .int .i64 p0.Res.E, .bool p0.Res.Found, .int .u64 p0.Res.Val, .bool p0.Res.Out, .int .u64 p0.Res.OutKey, .int .u64 p0.Res.OutVal, .int .u64 p0.Val, .int .i64 p0.E]) rfl rfl rfl rfl (by kernel_rfl) (by kernel_rfl) (hst.blkN 0 rfl 0 22) ?_
        refine OW.stB hst 1 rfl rfl rfl rfl rfl (by kernel_rfl) rfl rfl [.int .i64 p0.What, .int .i64 p0.Task, .int .i64 p0.From, .int .i64 p0.Cmd, .int .i64 p0.Tag, .int .i64 p0.Event, .int .i64 p0.Hook, .int .i64 p0.Prog, .int .i64 p0.Version, .int .i64 p0.Pc, .int .i64 p0.Item.Map, .int .i64 p0.Item.Op, .int .u64 p0.Item.Key, .int .u64 p0.Item.Val, .int .i64 p0.Res.E, .bool p0.Res.Found, .int .u64 p0.Res.Val, .bool p0.Res.Out, .int .u64 p0.Res.OutKey, .int .u64 p0.Res.OutVal, .int .u64 p0.Val, .int .i64 p0.E] rfl ?_
        intro w142 hst
        refine OW.pure 1 [(7, .bool false)] (by kernel_rfl) ?_
        refine OW.nil rfl ?_
        refine QW.next ?_
        refine CW.ret ?_
        refine QW.then_ret ?_
        refine QW.block_ret ?_
        refine QW.then_ret ?_
        refine QW.then_ret ?_
        refine QW.block_ret ?_
        refine QW.then_ret ?_
        obtain rfl := Option.some.inj hl127
        obtain rfl := Option.some.inj hF
        refine QW.ret_ct rfl rfl (run_loadN (cs := [.int .i64 p0.What, .int .i64 p0.Task, .int .i64 p0.From, .int .i64 p0.Cmd, .int .i64 p0.Tag, .int .i64 p0.Event, .int .i64 p0.Hook, .int .i64 p0.Prog, .int .i64 p0.Version, .int .i64 p0.Pc, .int .i64 p0.Item.Map, .int .i64 p0.Item.Op, .int .u64 p0.Item.Key, .int .u64 p0.Item.Val, .int .i64 p0.Res.E, .bool p0.Res.Found, .int .u64 p0.Res.Val, .bool p0.Res.Out, .int .u64 p0.Res.OutKey, .int .u64 p0.Res.OutVal, .int .u64 p0.Val, .int .i64 p0.E]) (by kernel_rfl) (by kernel_rfl) (hst.blkN 1 rfl 0 22)) rfl ?_
        exact ⟨rfl, hst.keep [] rfl⟩
       ·have hl127 := ite_f hl127 hc140
        refine CW.cond_f rfl hc140 ?_
        refine CW.skip ?_
        refine QW.next ?_
        refine CW.region ?_
        refine OW.pure 4 [(46, .int .u64 (wu64 (10 * s128.1))), (47, .string p2), (48, .int .i64 s128.2)] (by kernel_rfl) ?_
        obtain ⟨c145, hx146, hl127⟩ := bind_some' hl127
        refine OW.op (v := .int .u8 c145) rfl rfl rfl rfl (fun a ha => sidx_run rfl rfl rfl (by kernel_rfl) hx146 a _ ha) ?_
        refine OW.pure 4 [(10, .int .u64 (wu64 ((wu64 (10 * s128.1)) + (wu64 (IntKind.u8.wrap (c145 - 48))))))] (by kernel_rfl) ?_
        refine OW.nil rfl ?_
        refine QW.block_normal ?_
        refine QW.next ?_
        refine CW.region ?_
        refine OW.pure 3 [(11, .int .i64 (w64 (s128.2 + 1)))] (by kernel_rfl) ?_
        refine OW.nil rfl ?_
        exact QW.meet (fun a ha => ⟨n126, Nat.lt_succ_self _, (wu64 ((wu64 (10 * s128.1)) + (wu64 (IntKind.u8.wrap (c145 - 48)))), w64 (s128.2 + 1)), ha.agrees (by kernel_rfl), hst.keep [0, 1] rfl, hl127⟩)
     ·have hl127 := ite_f hl127 hc129
      refine CW.cond_f rfl hc129 ?_
      refine CW.exit ?_
      refine QW.then_exit ?_
      refine QW.then_exit ?_
      refine QW.block_here ?_
      obtain rfl := Option.some.inj hl127
      exact QW.meet (fun a ha => ⟨s128.1, rfl, ha.agrees (by kernel_rfl), hst.keep [0, 1] rfl⟩)
    ·rintro a w1 ⟨t88, rfl, ha, hst⟩
     refine CW.go ?_ ha
     refine CW.seq ?_
     refine CW.region ?_
     refine OW.pure 3 [(12, .int .i64 (w64 t88))] (by kernel_rfl) ?_
     refine OW.nil rfl ?_
     refine QW.next ?_
     refine CW.seq ?_
     refine CW.seq ?_
     refine CW.region ?_
     refine OW.pure 1 [(55, .bool (c22 == 45))] (by kernel_rfl) ?_
     refine OW.nil rfl ?_
     refine QW.next ?_
     obtain ⟨o148, ho149, hF⟩ := bind_some' hF
     refine CW.cutK (fun a w1 => Rep 126 [(1, .int .u8 p1), (3, .pointer (some ⟨b5, 0, none⟩)), (6, .pointer (some ⟨b7, 0, none⟩)), (10, .int .u64 t88), (12, .int .i64 o148)] a ∧ St w (fp []) w1 [itI R_t88 [.pointer (some ⟨b5, 0, none⟩)] ([b5]) p0, itI R_t88 [.pointer (some ⟨b7, 0, none⟩)] ([b7]) (api_Entry.mk 0 0 0 0 0 0 0 0 0 0 (api_Item.mk 0 0 0 0) (api_Res.mk 0 false 0 false 0 0) 0 0)]) ?_ ?_
     ·rcases Bool.eq_false_or_eq_true ((c22 == 45)) with hc150 | hc150
      ·have ho149 := ite_t ho149 hc150
       refine CW.cond_t rfl hc150 ?_
       refine CW.region ?_
       refine OW.pure 4 [(12, .int .i64 (w64 (wu64 (0 - t88))))] (by kernel_rfl) ?_
       refine OW.nil rfl ?_
       obtain rfl := Option.some.inj ho149
       exact QW.meet (fun a ha => ⟨ha.agrees (by kernel_rfl), hst.keep [0, 1] rfl⟩)
      ·have ho149 := ite_f ho149 hc150
       refine CW.cond_f rfl hc150 ?_
       refine CW.skip ?_
       obtain rfl := Option.some.inj ho149
       exact QW.meet (fun a ha => ⟨ha.agrees (by kernel_rfl), hst.keep [0, 1] rfl⟩)
     ·rintro a w1 ⟨ha, hst⟩
      refine CW.go ?_ ha
      refine CW.seq ?_
      refine CW.seq ?_
      refine CW.region ?_
      refine OW.pure 1 [(59, .int .u8 p1)] (by kernel_rfl) ?_
      refine OW.nil rfl ?_
      refine QW.next ?_
      refine CW.block ?_
      refine CW.seq ?_
      refine CW.region ?_
      refine OW.pure 2 [(64, .bool (p1 == 116))] (by kernel_rfl) ?_
      refine OW.nil rfl ?_
      refine QW.next ?_
      rcases Bool.eq_false_or_eq_true ((p1 == 116)) with hc151 | hc151
      ·have hF := ite_t hF hc151
       refine CW.cond_t rfl hc151 ?_
       have hst := hst.openQ0 0 rfl
       refine CW.region ?_
       refine OW.pure 2 [(66, .int .i64 o148), (67, .pointer (some ⟨b5, 1, none⟩))] (by kernel_rfl) ?_
       refine OW.stB hst 0 rfl rfl rfl rfl rfl (by kernel_rfl) rfl rfl [.int .i64 p0.What, .int .i64 o148, .int .i64 p0.From, .int .i64 p0.Cmd, .int .i64 p0.Tag, .int .i64 p0.Event, .int .i64 p0.Hook, .int .i64 p0.Prog, .int .i64 p0.Version, .int .i64 p0.Pc, .int .i64 p0.Item.Map, .int .i64 p0.Item.Op, .int .u64 p0.Item.Key, .int .u64 p0.Item.Val, .int .i64 p0.Res.E, .bool p0.Res.Found, .int .u64 p0.Res.Val, .bool p0.Res.Out, .int .u64 p0.Res.OutKey, .int .u64 p0.Res.OutVal, .int .u64 p0.Val, .int .i64 p0.E] rfl ?_
       intro w153 hst
       refine OW.nil rfl ?_
       refine QW.block_normal ?_
       refine QW.next ?_
       refine CW.seq ?_
       have hst := hst.openQ0 1 rfl
       refine CW.region ?_
       refine OW.ldN (cs := [.int .i64 p0.What, .int .i64 o148, .int .i64 p0.From, .int .i64 p0.Cmd, .int .i64 p0.Tag, .int .i64 p0.Event, .int .i64 p0.Hook, .int .i64 p0.Prog, .int .i64 p0.Version, .int .i64 p0.Pc, .int .i64 p0.Item.Map, .int .i64 p0.Item.Op, .int .u64 p0.Item.Key, .int .u64 p0.Item.Val, .int .i64 p0.Res.E, .bool p0.Res.Found, .int .u64 p0.Res.Val, .bool p0.Res.Out, .int .u64 p0.Res.OutKey, .int .u64 p0.Res.OutVal, .int .u64 p0.Val, .int .i64 p0.E]) rfl rfl rfl rfl (by kernel_rfl) (by kernel_rfl) (hst.blkN 0 rfl 0 22) ?_
       refine OW.stB hst 1 rfl rfl rfl rfl rfl (by kernel_rfl) rfl rfl [.int .i64 p0.What, .int .i64 o148, .int .i64 p0.From, .int .i64 p0.Cmd, .int .i64 p0.Tag, .int .i64 p0.Event, .int .i64 p0.Hook, .int .i64 p0.Prog, .int .i64 p0.Version, .int .i64 p0.Pc, .int .i64 p0.Item.Map, .int .i64 p0.Item.Op, .int .u64 p0.Item.Key, .int .u64 p0.Item.Val, .int .i64 p0.Res.E, .bool p0.Res.Found, .int .u64 p0.Res.Val, .bool p0.Res.Out, .int .u64 p0.Res.OutKey, .int .u64 p0.Res.OutVal, .int .u64 p0.Val, .int .i64 p0.E] rfl ?_
       intro w155 hst
       refine OW.pure 1 [(7, .bool true)] (by kernel_rfl) ?_
       refine OW.nil rfl ?_
       refine QW.next ?_
       refine CW.ret ?_
       obtain rfl := Option.some.inj hF
       refine QW.ret_ct rfl rfl (run_loadN (cs := [.int .i64 p0.What, .int .i64 o148, .int .i64 p0.From, .int .i64 p0.Cmd, .int .i64 p0.Tag, .int .i64 p0.Event, .int .i64 p0.Hook, .int .i64 p0.Prog, .int .i64 p0.Version, .int .i64 p0.Pc, .int .i64 p0.Item.Map, .int .i64 p0.Item.Op, .int .u64 p0.Item.Key, .int .u64 p0.Item.Val, .int .i64 p0.Res.E, .bool p0.Res.Found, .int .u64 p0.Res.Val, .bool p0.Res.Out, .int .u64 p0.Res.OutKey, .int .u64 p0.Res.OutVal, .int .u64 p0.Val, .int .i64 p0.E]) (by kernel_rfl) (by kernel_rfl) (hst.blkN 1 rfl 0 22)) rfl ?_
       exact ⟨rfl, hst.keep [] rfl⟩
      ·have hF := ite_f hF hc151
       refine CW.cond_f rfl hc151 ?_
       refine CW.seq ?_
       refine CW.region ?_
       refine OW.pure 2 [(68, .bool (p1 == 102))] (by kernel_rfl) ?_
       refine OW.nil rfl ?_
       refine QW.next ?_
       rcases Bool.eq_false_or_eq_true ((p1 == 102)) with hc156 | hc156
       ·have hF := ite_t hF hc156
        refine CW.cond_t rfl hc156 ?_
        have hst := hst.openQ0 0 rfl
        refine CW.region ?_
        refine OW.pure 2 [(70, .int .i64 o148), (71, .pointer (some ⟨b5, 2, none⟩))] (by kernel_rfl) ?_
        refine OW.stB hst 0 rfl rfl rfl rfl rfl (by kernel_rfl) rfl rfl [.int .i64 p0.What, .int .i64 p0.Task, .int .i64 o148, .int .i64 p0.Cmd, .int .i64 p0.Tag, .int .i64 p0.Event, .int .i64 p0.Hook, .int .i64 p0.Prog, .int .i64 p0.Version, .int .i64 p0.Pc, .int .i64 p0.Item.Map, .int .i64 p0.Item.Op, .int .u64 p0.Item.Key, .int .u64 p0.Item.Val, .int .i64 p0.Res.E, .bool p0.Res.Found, .int .u64 p0.Res.Val, .bool p0.Res.Out, .int .u64 p0.Res.OutKey, .int .u64 p0.Res.OutVal, .int .u64 p0.Val, .int .i64 p0.E] rfl ?_
        intro w158 hst
        refine OW.nil rfl ?_
        refine QW.block_normal ?_
        refine QW.next ?_
        refine CW.seq ?_
        have hst := hst.openQ0 1 rfl
        refine CW.region ?_
        refine OW.ldN (cs := [.int .i64 p0.What, .int .i64 p0.Task, .int .i64 o148, .int .i64 p0.Cmd, .int .i64 p0.Tag, .int .i64 p0.Event, .int .i64 p0.Hook, .int .i64 p0.Prog, .int .i64 p0.Version, .int .i64 p0.Pc, .int .i64 p0.Item.Map, .int .i64 p0.Item.Op, .int .u64 p0.Item.Key, .int .u64 p0.Item.Val, .int .i64 p0.Res.E, .bool p0.Res.Found, .int .u64 p0.Res.Val, .bool p0.Res.Out, .int .u64 p0.Res.OutKey, .int .u64 p0.Res.OutVal, .int .u64 p0.Val, .int .i64 p0.E]) rfl rfl rfl rfl (by kernel_rfl) (by kernel_rfl) (hst.blkN 0 rfl 0 22) ?_
        refine OW.stB hst 1 rfl rfl rfl rfl rfl (by kernel_rfl) rfl rfl [.int .i64 p0.What, .int .i64 p0.Task, .int .i64 o148, .int .i64 p0.Cmd, .int .i64 p0.Tag, .int .i64 p0.Event, .int .i64 p0.Hook, .int .i64 p0.Prog, .int .i64 p0.Version, .int .i64 p0.Pc, .int .i64 p0.Item.Map, .int .i64 p0.Item.Op, .int .u64 p0.Item.Key, .int .u64 p0.Item.Val, .int .i64 p0.Res.E, .bool p0.Res.Found, .int .u64 p0.Res.Val, .bool p0.Res.Out, .int .u64 p0.Res.OutKey, .int .u64 p0.Res.OutVal, .int .u64 p0.Val, .int .i64 p0.E] rfl ?_
        intro w160 hst
        refine OW.pure 1 [(7, .bool true)] (by kernel_rfl) ?_
        refine OW.nil rfl ?_
        refine QW.next ?_
        refine CW.ret ?_
        obtain rfl := Option.some.inj hF
        refine QW.ret_ct rfl rfl (run_loadN (cs := [.int .i64 p0.What, .int .i64 p0.Task, .int .i64 o148, .int .i64 p0.Cmd, .int .i64 p0.Tag, .int .i64 p0.Event, .int .i64 p0.Hook, .int .i64 p0.Prog, .int .i64 p0.Version, .int .i64 p0.Pc, .int .i64 p0.Item.Map, .int .i64 p0.Item.Op, .int .u64 p0.Item.Key, .int .u64 p0.Item.Val, .int .i64 p0.Res.E, .bool p0.Res.Found, .int .u64 p0.Res.Val, .bool p0.Res.Out, .int .u64 p0.Res.OutKey, .int .u64 p0.Res.OutVal, .int .u64 p0.Val, .int .i64 p0.E]) (by kernel_rfl) (by kernel_rfl) (hst.blkN 1 rfl 0 22)) rfl ?_
        exact ⟨rfl, hst.keep [] rfl⟩
       ·have hF := ite_f hF hc156
        refine CW.cond_f rfl hc156 ?_
        refine CW.seq ?_
        refine CW.region ?_
        refine OW.pure 2 [(72, .bool (p1 == 99))] (by kernel_rfl) ?_
        refine OW.nil rfl ?_
        refine QW.next ?_
        rcases Bool.eq_false_or_eq_true ((p1 == 99)) with hc161 | hc161
        ·have hF := ite_t hF hc161
         refine CW.cond_t rfl hc161 ?_
         have hst := hst.openQ0 0 rfl
         refine CW.region ?_
         refine OW.pure 2 [(74, .int .i64 o148), (75, .pointer (some ⟨b5, 3, none⟩))] (by kernel_rfl) ?_
         refine OW.stB hst 0 rfl rfl rfl rfl rfl (by kernel_rfl) rfl rfl [.int .i64 p0.What, .int .i64 p0.Task, .int .i64 p0.From, .int .i64 o148, .int .i64 p0.Tag, .int .i64 p0.Event, .int .i64 p0.Hook, .int .i64 p0.Prog, .int .i64 p0.Version, .int .i64 p0.Pc, .int .i64 p0.Item.Map, .int .i64 p0.Item.Op, .int .u64 p0.Item.Key, .int .u64 p0.Item.Val, .int .i64 p0.Res.E, .bool p0.Res.Found, .int .u64 p0.Res.Val, .bool p0.Res.Out, .int .u64 p0.Res.OutKey, .int .u64 p0.Res.OutVal, .int .u64 p0.Val, .int .i64 p0.E] rfl ?_
         intro w163 hst
         refine OW.nil rfl ?_
         refine QW.block_normal ?_
         refine QW.next ?_
         refine CW.seq ?_
         have hst := hst.openQ0 1 rfl
         refine CW.region ?_
         refine OW.ldN (cs := [.int .i64 p0.What, .int .i64 p0.Task, .int .i64 p0.From, .int .i64 o148, .int .i64 p0.Tag, .int .i64 p0.Event, .int .i64 p0.Hook, .int .i64 p0.Prog, .int .i64 p0.Version, .int .i64 p0.Pc, .int .i64 p0.Item.Map, .int .i64 p0.Item.Op, .int .u64 p0.Item.Key, .int .u64 p0.Item.Val, .int .i64 p0.Res.E, .bool p0.Res.Found, .int .u64 p0.Res.Val, .bool p0.Res.Out, .int .u64 p0.Res.OutKey, .int .u64 p0.Res.OutVal, .int .u64 p0.Val, .int .i64 p0.E]) rfl rfl rfl rfl (by kernel_rfl) (by kernel_rfl) (hst.blkN 0 rfl 0 22) ?_
         refine OW.stB hst 1 rfl rfl rfl rfl rfl (by kernel_rfl) rfl rfl [.int .i64 p0.What, .int .i64 p0.Task, .int .i64 p0.From, .int .i64 o148, .int .i64 p0.Tag, .int .i64 p0.Event, .int .i64 p0.Hook, .int .i64 p0.Prog, .int .i64 p0.Version, .int .i64 p0.Pc, .int .i64 p0.Item.Map, .int .i64 p0.Item.Op, .int .u64 p0.Item.Key, .int .u64 p0.Item.Val, .int .i64 p0.Res.E, .bool p0.Res.Found, .int .u64 p0.Res.Val, .bool p0.Res.Out, .int .u64 p0.Res.OutKey, .int .u64 p0.Res.OutVal, .int .u64 p0.Val, .int .i64 p0.E] rfl ?_
         intro w165 hst
         refine OW.pure 1 [(7, .bool true)] (by kernel_rfl) ?_
         refine OW.nil rfl ?_
         refine QW.next ?_
         refine CW.ret ?_
         obtain rfl := Option.some.inj hF
         refine QW.ret_ct rfl rfl (run_loadN (cs := [.int .i64 p0.What, .int .i64 p0.Task, .int .i64 p0.From, .int .i64 o148, .int .i64 p0.Tag, .int .i64 p0.Event, .int .i64 p0.Hook, .int .i64 p0.Prog, .int .i64 p0.Version, .int .i64 p0.Pc, .int .i64 p0.Item.Map, .int .i64 p0.Item.Op, .int .u64 p0.Item.Key, .int .u64 p0.Item.Val, .int .i64 p0.Res.E, .bool p0.Res.Found, .int .u64 p0.Res.Val, .bool p0.Res.Out, .int .u64 p0.Res.OutKey, .int .u64 p0.Res.OutVal, .int .u64 p0.Val, .int .i64 p0.E]) (by kernel_rfl) (by kernel_rfl) (hst.blkN 1 rfl 0 22)) rfl ?_
         exact ⟨rfl, hst.keep [] rfl⟩
        ·have hF := ite_f hF hc161
         refine CW.cond_f rfl hc161 ?_
         refine CW.seq ?_
         refine CW.region ?_
         refine OW.pure 2 [(76, .bool (p1 == 103))] (by kernel_rfl) ?_
         refine OW.nil rfl ?_
         refine QW.next ?_
         rcases Bool.eq_false_or_eq_true ((p1 == 103)) with hc166 | hc166
         ·have hF := ite_t hF hc166
          refine CW.cond_t rfl hc166 ?_
          have hst := hst.openQ0 0 rfl
          refine CW.region ?_
          refine OW.pure 2 [(78, .int .i64 o148), (79, .pointer (some ⟨b5, 4, none⟩))] (by kernel_rfl) ?_
          refine OW.stB hst 0 rfl rfl rfl rfl rfl (by kernel_rfl) rfl rfl [.int .i64 p0.What, .int .i64 p0.Task, .int .i64 p0.From, .int .i64 p0.Cmd, .int .i64 o148, .int .i64 p0.Event, .int .i64 p0.Hook, .int .i64 p0.Prog, .int .i64 p0.Version, .int .i64 p0.Pc, .int .i64 p0.Item.Map, .int .i64 p0.Item.Op, .int .u64 p0.Item.Key, .int .u64 p0.Item.Val, .int .i64 p0.Res.E, .bool p0.Res.Found, .int .u64 p0.Res.Val, .bool p0.Res.Out, .int .u64 p0.Res.OutKey, .int .u64 p0.Res.OutVal, .int .u64 p0.Val, .int .i64 p0.E] rfl ?_
          intro w168 hst
          refine OW.nil rfl ?_
          refine QW.block_normal ?_
          refine QW.next ?_
          refine CW.seq ?_
          have hst := hst.openQ0 1 rfl
          refine CW.region ?_
          refine OW.ldN (cs := [.int .i64 p0.What, .int .i64 p0.Task, .int .i64 p0.From, .int .i64 p0.Cmd, .int .i64 o148, .int .i64 p0.Event, .int .i64 p0.Hook, .int .i64 p0.Prog, .int .i64 p0.Version, .int .i64 p0.Pc, .int .i64 p0.Item.Map, .int .i64 p0.Item.Op, .int .u64 p0.Item.Key, .int .u64 p0.Item.Val, .int .i64 p0.Res.E, .bool p0.Res.Found, .int .u64 p0.Res.Val, .bool p0.Res.Out, .int .u64 p0.Res.OutKey, .int .u64 p0.Res.OutVal, .int .u64 p0.Val, .int .i64 p0.E]) rfl rfl rfl rfl (by kernel_rfl) (by kernel_rfl) (hst.blkN 0 rfl 0 22) ?_
          refine OW.stB hst 1 rfl rfl rfl rfl rfl (by kernel_rfl) rfl rfl [.int .i64 p0.What, .int .i64 p0.Task, .int .i64 p0.From, .int .i64 p0.Cmd, .int .i64 o148, .int .i64 p0.Event, .int .i64 p0.Hook, .int .i64 p0.Prog, .int .i64 p0.Version, .int .i64 p0.Pc, .int .i64 p0.Item.Map, .int .i64 p0.Item.Op, .int .u64 p0.Item.Key, .int .u64 p0.Item.Val, .int .i64 p0.Res.E, .bool p0.Res.Found, .int .u64 p0.Res.Val, .bool p0.Res.Out, .int .u64 p0.Res.OutKey, .int .u64 p0.Res.OutVal, .int .u64 p0.Val, .int .i64 p0.E] rfl ?_
          intro w170 hst
          refine OW.pure 1 [(7, .bool true)] (by kernel_rfl) ?_
          refine OW.nil rfl ?_
          refine QW.next ?_
          refine CW.ret ?_
          obtain rfl := Option.some.inj hF
          refine QW.ret_ct rfl rfl (run_loadN (cs := [.int .i64 p0.What, .int .i64 p0.Task, .int .i64 p0.From, .int .i64 p0.Cmd, .int .i64 o148, .int .i64 p0.Event, .int .i64 p0.Hook, .int .i64 p0.Prog, .int .i64 p0.Version, .int .i64 p0.Pc, .int .i64 p0.Item.Map, .int .i64 p0.Item.Op, .int .u64 p0.Item.Key, .int .u64 p0.Item.Val, .int .i64 p0.Res.E, .bool p0.Res.Found, .int .u64 p0.Res.Val, .bool p0.Res.Out, .int .u64 p0.Res.OutKey, .int .u64 p0.Res.OutVal, .int .u64 p0.Val, .int .i64 p0.E]) (by kernel_rfl) (by kernel_rfl) (hst.blkN 1 rfl 0 22)) rfl ?_
          exact ⟨rfl, hst.keep [] rfl⟩
         ·have hF := ite_f hF hc166
          refine CW.cond_f rfl hc166 ?_
          refine CW.seq ?_
          refine CW.region ?_
          refine OW.pure 2 [(80, .bool (p1 == 101))] (by kernel_rfl) ?_
          refine OW.nil rfl ?_
          refine QW.next ?_
          rcases Bool.eq_false_or_eq_true ((p1 == 101)) with hc171 | hc171
          ·have hF := ite_t hF hc171
           refine CW.cond_t rfl hc171 ?_
           have hst := hst.openQ0 0 rfl
           refine CW.region ?_
           refine OW.pure 2 [(82, .int .i64 o148), (83, .pointer (some ⟨b5, 5, none⟩))] (by kernel_rfl) ?_
           refine OW.stB hst 0 rfl rfl rfl rfl rfl (by kernel_rfl) rfl rfl [.int .i64 p0.What, .int .i64 p0.Task, .int .i64 p0.From, .int .i64 p0.Cmd, .int .i64 p0.Tag, .int .i64 o148, .int .i64 p0.Hook, .int .i64 p0.Prog, .int .i64 p0.Version, .int .i64 p0.Pc, .int .i64 p0.Item.Map, .int .i64 p0.Item.Op, .int .u64 p0.Item.Key, .int .u64 p0.Item.Val, .int .i64 p0.Res.E, .bool p0.Res.Found, .int .u64 p0.Res.Val, .bool p0.Res.Out, .int .u64 p0.Res.OutKey, .int .u64 p0.Res.OutVal, .int .u64 p0.Val, .int .i64 p0.E] rfl ?_
           intro w173 hst
           refine OW.nil rfl ?_
           refine QW.block_normal ?_
           refine QW.next ?_
           refine CW.seq ?_
           have hst := hst.openQ0 1 rfl
           refine CW.region ?_
           refine OW.ldN (cs := [.int .i64 p0.What, .int .i64 p0.Task, .int .i64 p0.From, .int .i64 p0.Cmd, .int .i64 p0.Tag, .int .i64 o148, .int .i64 p0.Hook, .int .i64 p0.Prog, .int .i64 p0.Version, .int .i64 p0.Pc, .int .i64 p0.Item.Map, .int .i64 p0.Item.Op, .int .u64 p0.Item.Key, .int .u64 p0.Item.Val, .int .i64 p0.Res.E, .bool p0.Res.Found, .int .u64 p0.Res.Val, .bool p0.Res.Out, .int .u64 p0.Res.OutKey, .int .u64 p0.Res.OutVal, .int .u64 p0.Val, .int .i64 p0.E]) rfl rfl rfl rfl (by kernel_rfl) (by kernel_rfl) (hst.blkN 0 rfl 0 22) ?_
           refine OW.stB hst 1 rfl rfl rfl rfl rfl (by kernel_rfl) rfl rfl [.int .i64 p0.What, .int .i64 p0.Task, .int .i64 p0.From, .int .i64 p0.Cmd, .int .i64 p0.Tag, .int .i64 o148, .int .i64 p0.Hook, .int .i64 p0.Prog, .int .i64 p0.Version, .int .i64 p0.Pc, .int .i64 p0.Item.Map, .int .i64 p0.Item.Op, .int .u64 p0.Item.Key, .int .u64 p0.Item.Val, .int .i64 p0.Res.E, .bool p0.Res.Found, .int .u64 p0.Res.Val, .bool p0.Res.Out, .int .u64 p0.Res.OutKey, .int .u64 p0.Res.OutVal, .int .u64 p0.Val, .int .i64 p0.E] rfl ?_
           intro w175 hst
           refine OW.pure 1 [(7, .bool true)] (by kernel_rfl) ?_
           refine OW.nil rfl ?_
           refine QW.next ?_
           refine CW.ret ?_
           obtain rfl := Option.some.inj hF
           refine QW.ret_ct rfl rfl (run_loadN (cs := [.int .i64 p0.What, .int .i64 p0.Task, .int .i64 p0.From, .int .i64 p0.Cmd, .int .i64 p0.Tag, .int .i64 o148, .int .i64 p0.Hook, .int .i64 p0.Prog, .int .i64 p0.Version, .int .i64 p0.Pc, .int .i64 p0.Item.Map, .int .i64 p0.Item.Op, .int .u64 p0.Item.Key, .int .u64 p0.Item.Val, .int .i64 p0.Res.E, .bool p0.Res.Found, .int .u64 p0.Res.Val, .bool p0.Res.Out, .int .u64 p0.Res.OutKey, .int .u64 p0.Res.OutVal, .int .u64 p0.Val, .int .i64 p0.E]) (by kernel_rfl) (by kernel_rfl) (hst.blkN 1 rfl 0 22)) rfl ?_
           exact ⟨rfl, hst.keep [] rfl⟩
          ·have hF := ite_f hF hc171
           refine CW.cond_f rfl hc171 ?_
           refine CW.seq ?_
           refine CW.region ?_
           refine OW.pure 2 [(84, .bool (p1 == 104))] (by kernel_rfl) ?_
           refine OW.nil rfl ?_
           refine QW.next ?_
           rcases Bool.eq_false_or_eq_true ((p1 == 104)) with hc176 | hc176
           ·have hF := ite_t hF hc176
            refine CW.cond_t rfl hc176 ?_
            have hst := hst.openQ0 0 rfl
            refine CW.region ?_
            refine OW.pure 2 [(86, .int .i64 o148), (87, .pointer (some ⟨b5, 6, none⟩))] (by kernel_rfl) ?_
            refine OW.stB hst 0 rfl rfl rfl rfl rfl (by kernel_rfl) rfl rfl [.int .i64 p0.What, .int .i64 p0.Task, .int .i64 p0.From, .int .i64 p0.Cmd, .int .i64 p0.Tag, .int .i64 p0.Event, .int .i64 o148, .int .i64 p0.Prog, .int .i64 p0.Version, .int .i64 p0.Pc, .int .i64 p0.Item.Map, .int .i64 p0.Item.Op, .int .u64 p0.Item.Key, .int .u64 p0.Item.Val, .int .i64 p0.Res.E, .bool p0.Res.Found, .int .u64 p0.Res.Val, .bool p0.Res.Out, .int .u64 p0.Res.OutKey, .int .u64 p0.Res.OutVal, .int .u64 p0.Val, .int .i64 p0.E] rfl ?_
            intro w178 hst
            refine OW.nil rfl ?_
            refine QW.block_normal ?_
            refine QW.next ?_
            refine CW.seq ?_
            have hst := hst.openQ0 1 rfl
            refine CW.region ?_
            refine OW.ldN (cs := [.int .i64 p0.What, .int .i64 p0.Task, .int .i64 p0.From, .int .i64 p0.Cmd, .int .i64 p0.Tag, .int .i64 p0.Event, .int .i64 o148, .int .i64 p0.Prog, .int .i64 p0.Version, .int .i64 p0.Pc, .int .i64 p0.Item.Map, .int .i64 p0.Item.Op, .int .u64 p0.Item.Key, .int .u64 p0.Item.Val, .int .i64 p0.Res.E, .bool p0.Res.Found, .int .u64 p0.Res.Val, .bool p0.Res.Out, .int .u64 p0.Res.OutKey, .int .u64 p0.Res.OutVal, .int .u64 p0.Val, .int .i64 p0.E]) rfl rfl rfl rfl (by kernel_rfl) (by kernel_rfl) (hst.blkN 0 rfl 0 22) ?_
            refine OW.stB hst 1 rfl rfl rfl rfl rfl (by kernel_rfl) rfl rfl [.int .i64 p0.What, .int .i64 p0.Task, .int .i64 p0.From, .int .i64 p0.Cmd, .int .i64 p0.Tag, .int .i64 p0.Event, .int .i64 o148, .int .i64 p0.Prog, .int .i64 p0.Version, .int .i64 p0.Pc, .int .i64 p0.Item.Map, .int .i64 p0.Item.Op, .int .u64 p0.Item.Key, .int .u64 p0.Item.Val, .int .i64 p0.Res.E, .bool p0.Res.Found, .int .u64 p0.Res.Val, .bool p0.Res.Out, .int .u64 p0.Res.OutKey, .int .u64 p0.Res.OutVal, .int .u64 p0.Val, .int .i64 p0.E] rfl ?_
            intro w180 hst
            refine OW.pure 1 [(7, .bool true)] (by kernel_rfl) ?_
            refine OW.nil rfl ?_
            refine QW.next ?_
            refine CW.ret ?_
            obtain rfl := Option.some.inj hF
            refine QW.ret_ct rfl rfl (run_loadN (cs := [.int .i64 p0.What, .int .i64 p0.Task, .int .i64 p0.From, .int .i64 p0.Cmd, .int .i64 p0.Tag, .int .i64 p0.Event, .int .i64 o148, .int .i64 p0.Prog, .int .i64 p0.Version, .int .i64 p0.Pc, .int .i64 p0.Item.Map, .int .i64 p0.Item.Op, .int .u64 p0.Item.Key, .int .u64 p0.Item.Val, .int .i64 p0.Res.E, .bool p0.Res.Found, .int .u64 p0.Res.Val, .bool p0.Res.Out, .int .u64 p0.Res.OutKey, .int .u64 p0.Res.OutVal, .int .u64 p0.Val, .int .i64 p0.E]) (by kernel_rfl) (by kernel_rfl) (hst.blkN 1 rfl 0 22)) rfl ?_
            exact ⟨rfl, hst.keep [] rfl⟩
           ·have hF := ite_f hF hc176
            refine CW.cond_f rfl hc176 ?_
            refine CW.seq ?_
            refine CW.region ?_
            refine OW.pure 2 [(88, .bool (p1 == 112))] (by kernel_rfl) ?_
            refine OW.nil rfl ?_
            refine QW.next ?_
            rcases Bool.eq_false_or_eq_true ((p1 == 112)) with hc181 | hc181
            ·have hF := ite_t hF hc181
             refine CW.cond_t rfl hc181 ?_
             have hst := hst.openQ0 0 rfl
             refine CW.region ?_
             refine OW.pure 2 [(90, .int .i64 o148), (91, .pointer (some ⟨b5, 7, none⟩))] (by kernel_rfl) ?_
             refine OW.stB hst 0 rfl rfl rfl rfl rfl (by kernel_rfl) rfl rfl [.int .i64 p0.What, .int .i64 p0.Task, .int .i64 p0.From, .int .i64 p0.Cmd, .int .i64 p0.Tag, .int .i64 p0.Event, .int .i64 p0.Hook, .int .i64 o148, .int .i64 p0.Version, .int .i64 p0.Pc, .int .i64 p0.Item.Map, .int .i64 p0.Item.Op, .int .u64 p0.Item.Key, .int .u64 p0.Item.Val, .int .i64 p0.Res.E, .bool p0.Res.Found, .int .u64 p0.Res.Val, .bool p0.Res.Out, .int .u64 p0.Res.OutKey, .int .u64 p0.Res.OutVal, .int .u64 p0.Val, .int .i64 p0.E] rfl ?_
             intro w183 hst
             refine OW.nil rfl ?_
             refine QW.block_normal ?_
             refine QW.next ?_
             refine CW.seq ?_
             have hst := hst.openQ0 1 rfl
             refine CW.region ?_
             refine OW.ldN (cs := [.int .i64 p0.What, .int .i64 p0.Task, .int .i64 p0.From, .int .i64 p0.Cmd, .int .i64 p0.Tag, .int .i64 p0.Event, .int .i64 p0.Hook, .int .i64 o148, .int .i64 p0.Version, .int .i64 p0.Pc, .int .i64 p0.Item.Map, .int .i64 p0.Item.Op, .int .u64 p0.Item.Key, .int .u64 p0.Item.Val, .int .i64 p0.Res.E, .bool p0.Res.Found, .int .u64 p0.Res.Val, .bool p0.Res.Out, .int .u64 p0.Res.OutKey, .int .u64 p0.Res.OutVal, .int .u64 p0.Val, .int .i64 p0.E]) rfl rfl rfl rfl (by kernel_rfl) (by kernel_rfl) (hst.blkN 0 rfl 0 22) ?_
             refine OW.stB hst 1 rfl rfl rfl rfl rfl (by kernel_rfl) rfl rfl [.int .i64 p0.What, .int .i64 p0.Task, .int .i64 p0.From, .int .i64 p0.Cmd, .int .i64 p0.Tag, .int .i64 p0.Event, .int .i64 p0.Hook, .int .i64 o148, .int .i64 p0.Version, .int .i64 p0.Pc, .int .i64 p0.Item.Map, .int .i64 p0.Item.Op, .int .u64 p0.Item.Key, .int .u64 p0.Item.Val, .int .i64 p0.Res.E, .bool p0.Res.Found, .int .u64 p0.Res.Val, .bool p0.Res.Out, .int .u64 p0.Res.OutKey, .int .u64 p0.Res.OutVal, .int .u64 p0.Val, .int .i64 p0.E] rfl ?_
             intro w185 hst
             refine OW.pure 1 [(7, .bool true)] (by kernel_rfl) ?_
             refine OW.nil rfl ?_
             refine QW.next ?_
             refine CW.ret ?_
             obtain rfl := Option.some.inj hF
             refine QW.ret_ct rfl rfl (run_loadN (cs := [.int .i64 p0.What, .int .i64 p0.Task, .int .i64 p0.From, .int .i64 p0.Cmd, .int .i64 p0.Tag, .int .i64 p0.Event, .int .i64 p0.Hook, .int .i64 o148, .int .i64 p0.Version, .int .i64 p0.Pc, .int .i64 p0.Item.Map, .int .i64 p0.Item.Op, .int .u64 p0.Item.Key, .int .u64 p0.Item.Val, .int .i64 p0.Res.E, .bool p0.Res.Found, .int .u64 p0.Res.Val, .bool p0.Res.Out, .int .u64 p0.Res.OutKey, .int .u64 p0.Res.OutVal, .int .u64 p0.Val, .int .i64 p0.E]) (by kernel_rfl) (by kernel_rfl) (hst.blkN 1 rfl 0 22)) rfl ?_
             exact ⟨rfl, hst.keep [] rfl⟩
            ·have hF := ite_f hF hc181
             refine CW.cond_f rfl hc181 ?_
             refine CW.seq ?_
             refine CW.region ?_
             refine OW.pure 2 [(92, .bool (p1 == 118))] (by kernel_rfl) ?_
             refine OW.nil rfl ?_
             refine QW.next ?_
             rcases Bool.eq_false_or_eq_true ((p1 == 118)) with hc186 | hc186
             ·have hF := ite_t hF hc186
              refine CW.cond_t rfl hc186 ?_
              have hst := hst.openQ0 0 rfl
              refine CW.region ?_
              refine OW.pure 2 [(94, .int .i64 o148), (95, .pointer (some ⟨b5, 8, none⟩))] (by kernel_rfl) ?_
              refine OW.stB hst 0 rfl rfl rfl rfl rfl (by kernel_rfl) rfl rfl [.int .i64 p0.What, .int .i64 p0.Task, .int .i64 p0.From, .int .i64 p0.Cmd, .int .i64 p0.Tag, .int .i64 p0.Event, .int .i64 p0.Hook, .int .i64 p0.Prog, .int .i64 o148, .int .i64 p0.Pc, .int .i64 p0.Item.Map, .int .i64 p0.Item.Op, .int .u64 p0.Item.Key, .int .u64 p0.Item.Val, .int .i64 p0.Res.E, .bool p0.Res.Found, .int .u64 p0.Res.Val, .bool p0.Res.Out, .int .u64 p0.Res.OutKey, .int .u64 p0.Res.OutVal, .int .u64 p0.Val, .int .i64 p0.E] rfl ?_
              intro w188 hst
              refine OW.nil rfl ?_
              refine QW.block_normal ?_
              refine QW.next ?_
              refine CW.seq ?_
              have hst := hst.openQ0 1 rfl
              refine CW.region ?_
              refine OW.ldN (cs := [.int .i64 p0.What, .int .i64 p0.Task, .int .i64 p0.From, .int .i64 p0.Cmd, .int .i64 p0.Tag, .int .i64 p0.Event, .int .i64 p0.Hook, .int .i64 p0.Prog, .int .i64 o148, .int .i64 p0.Pc, .int .i64 p0.Item.Map, .int .i64 p0.Item.Op, .int .u64 p0.Item.Key, .int .u64 p0.Item.Val, .int .i64 p0.Res.E, .bool p0.Res.Found, .int .u64 p0.Res.Val, .bool p0.Res.Out, .int .u64 p0.Res.OutKey, .int .u64 p0.Res.OutVal, .int .u64 p0.Val, .int .i64 p0.E]) rfl rfl rfl rfl (by kernel_rfl) (by kernel_rfl) (hst.blkN 0 rfl 0 22) ?_
              refine OW.stB hst 1 rfl rfl rfl rfl rfl (by kernel_rfl) rfl rfl [.int .i64 p0.What, .int .i64 p0.Task, .int .i64 p0.From, .int .i64 p0.Cmd, .int .i64 p0.Tag, .int .i64 p0.Event, .int .i64 p0.Hook, .int .i64 p0.Prog, .int .i64 o148, .int .i64 p0.Pc, .int .i64 p0.Item.Map, .int .i64 p0.Item.Op, .int .u64 p0.Item.Key, .int .u64 p0.Item.Val, .int .i64 p0.Res.E, .bool p0.Res.Found, .int .u64 p0.Res.Val, .bool p0.Res.Out, .int .u64 p0.Res.OutKey, .int .u64 p0.Res.OutVal, .int .u64 p0.Val, .int .i64 p0.E] rfl ?_
              intro w190 hst
              refine OW.pure 1 [(7, .bool true)] (by kernel_rfl) ?_
              refine OW.nil rfl ?_
              refine QW.next ?_
              refine CW.ret ?_
              obtain rfl := Option.some.inj hF
              refine QW.ret_ct rfl rfl (run_loadN (cs := [.int .i64 p0.What, .int .i64 p0.Task, .int .i64 p0.From, .int .i64 p0.Cmd, .int .i64 p0.Tag, .int .i64 p0.Event, .int .i64 p0.Hook, .int .i64 p0.Prog, .int .i64 o148, .int .i64 p0.Pc, .int .i64 p0.Item.Map, .int .i64 p0.Item.Op, .int .u64 p0.Item.Key, .int .u64 p0.Item.Val, .int .i64 p0.Res.E, .bool p0.Res.Found, .int .u64 p0.Res.Val, .bool p0.Res.Out, .int .u64 p0.Res.OutKey, .int .u64 p0.Res.OutVal, .int .u64 p0.Val, .int .i64 p0.E]) (by kernel_rfl) (by kernel_rfl) (hst.blkN 1 rfl 0 22)) rfl ?_
              exact ⟨rfl, hst.keep [] rfl⟩
             ·have hF := ite_f hF hc186
              refine CW.cond_f rfl hc186 ?_
              refine CW.seq ?_
              refine CW.region ?_
              refine OW.pure 2 [(96, .bool (p1 == 97))] (by kernel_rfl) ?_
              refine OW.nil rfl ?_
              refine QW.next ?_
              rcases Bool.eq_false_or_eq_true ((p1 == 97)) with hc191 | hc191
              ·have hF := ite_t hF hc191
               refine CW.cond_t rfl hc191 ?_
               have hst := hst.openQ0 0 rfl
               refine CW.region ?_
               refine OW.pure 2 [(98, .int .i64 o148), (99, .pointer (some ⟨b5, 9, none⟩))] (by kernel_rfl) ?_
               refine OW.stB hst 0 rfl rfl rfl rfl rfl (by kernel_rfl) rfl rfl [.int .i64 p0.What, .int .i64 p0.Task, .int .i64 p0.From, .int .i64 p0.Cmd, .int .i64 p0.Tag, .int .i64 p0.Event, .int .i64 p0.Hook, .int .i64 p0.Prog, .int .i64 p0.Version, .int .i64 o148, .int .i64 p0.Item.Map, .int .i64 p0.Item.Op, .int .u64 p0.Item.Key, .int .u64 p0.Item.Val, .int .i64 p0.Res.E, .bool p0.Res.Found, .int .u64 p0.Res.Val, .bool p0.Res.Out, .int .u64 p0.Res.OutKey, .int .u64 p0.Res.OutVal, .int .u64 p0.Val, .int .i64 p0.E] rfl ?_
               intro w193 hst
               refine OW.nil rfl ?_
               refine QW.block_normal ?_
               refine QW.next ?_
               refine CW.seq ?_
               have hst := hst.openQ0 1 rfl
               refine CW.region ?_
               refine OW.ldN (cs := [.int .i64 p0.What, .int .i64 p0.Task, .int .i64 p0.From, .int .i64 p0.Cmd, .int .i64 p0.Tag, .int .i64 p0.Event, .int .i64 p0.Hook, .int .i64 p0.Prog, .int .i64 p0.Version, .int .i64 o148, .int .i64 p0.Item.Map, .int .i64 p0.Item.Op, .int .u64 p0.Item.Key, .int .u64 p0.Item.Val, .int .i64 p0.Res.E, .bool p0.Res.Found, .int .u64 p0.Res.Val, .bool p0.Res.Out, .int .u64 p0.Res.OutKey, .int .u64 p0.Res.OutVal, .int .u64 p0.Val, .int .i64 p0.E]) rfl rfl rfl rfl (by kernel_rfl) (by kernel_rfl) (hst.blkN 0 rfl 0 22) ?_
               refine OW.stB hst 1 rfl rfl rfl rfl rfl (by kernel_rfl) rfl rfl [.int .i64 p0.What, .int .i64 p0.Task, .int .i64 p0.From, .int .i64 p0.Cmd, .int .i64 p0.Tag, .int .i64 p0.Event, .int .i64 p0.Hook, .int .i64 p0.Prog, .int .i64 p0.Version, .int .i64 o148, .int .i64 p0.Item.Map, .int .i64 p0.Item.Op, .int .u64 p0.Item.Key, .int .u64 p0.Item.Val, .int .i64 p0.Res.E, .bool p0.Res.Found, .int .u64 p0.Res.Val, .bool p0.Res.Out, .int .u64 p0.Res.OutKey, .int .u64 p0.Res.OutVal, .int .u64 p0.Val, .int .i64 p0.E] rfl ?_
               intro w195 hst
               refine OW.pure 1 [(7, .bool true)] (by kernel_rfl) ?_
               refine OW.nil rfl ?_
               refine QW.next ?_
               refine CW.ret ?_
               obtain rfl := Option.some.inj hF
               refine QW.ret_ct rfl rfl (run_loadN (cs := [.int .i64 p0.What, .int .i64 p0.Task, .int .i64 p0.From, .int .i64 p0.Cmd, .int .i64 p0.Tag, .int .i64 p0.Event, .int .i64 p0.Hook, .int .i64 p0.Prog, .int .i64 p0.Version, .int .i64 o148, .int .i64 p0.Item.Map, .int .i64 p0.Item.Op, .int .u64 p0.Item.Key, .int .u64 p0.Item.Val, .int .i64 p0.Res.E, .bool p0.Res.Found, .int .u64 p0.Res.Val, .bool p0.Res.Out, .int .u64 p0.Res.OutKey, .int .u64 p0.Res.OutVal, .int .u64 p0.Val, .int .i64 p0.E]) (by kernel_rfl) (by kernel_rfl) (hst.blkN 1 rfl 0 22)) rfl ?_
               exact ⟨rfl, hst.keep [] rfl⟩
              ·have hF := ite_f hF hc191
               refine CW.cond_f rfl hc191 ?_
               refine CW.seq ?_
               refine CW.region ?_
               refine OW.pure 2 [(100, .bool (p1 == 120))] (by kernel_rfl) ?_
               refine OW.nil rfl ?_
               refine QW.next ?_
               rcases Bool.eq_false_or_eq_true ((p1 == 120)) with hc196 | hc196
               ·have hF := ite_t hF hc196
                refine CW.cond_t rfl hc196 ?_
                have hst := hst.openQ0 0 rfl
                refine CW.region ?_
                refine OW.pure 2 [(102, .int .i64 o148), (103, .pointer (some ⟨b5, 21, none⟩))] (by kernel_rfl) ?_
                refine OW.stB hst 0 rfl rfl rfl rfl rfl (by kernel_rfl) rfl rfl [.int .i64 p0.What, .int .i64 p0.Task, .int .i64 p0.From, .int .i64 p0.Cmd, .int .i64 p0.Tag, .int .i64 p0.Event, .int .i64 p0.Hook, .int .i64 p0.Prog, .int .i64 p0.Version, .int .i64 p0.Pc, .int .i64 p0.Item.Map, .int .i64 p0.Item.Op, .int .u64 p0.Item.Key, .int .u64 p0.Item.Val, .int .i64 p0.Res.E, .bool p0.Res.Found, .int .u64 p0.Res.Val, .bool p0.Res.Out, .int .u64 p0.Res.OutKey, .int .u64 p0.Res.OutVal, .int .u64 p0.Val, .int .i64 o148] rfl ?_
                intro w198 hst
                refine OW.nil rfl ?_
                refine QW.block_normal ?_
                refine QW.next ?_
                refine CW.seq ?_
                have hst := hst.openQ0 1 rfl
                refine CW.region ?_
                refine OW.ldN (cs := [.int .i64 p0.What, .int .i64 p0.Task, .int .i64 p0.From, .int .i64 p0.Cmd, .int .i64 p0.Tag, .int .i64 p0.Event, .int .i64 p0.Hook, .int .i64 p0.Prog, .int .i64 p0.Version, .int .i64 p0.Pc, .int .i64 p0.Item.Map, .int .i64 p0.Item.Op, .int .u64 p0.Item.Key, .int .u64 p0.Item.Val, .int .i64 p0.Res.E, .bool p0.Res.Found, .int .u64 p0.Res.Val, .bool p0.Res.Out, .int .u64 p0.Res.OutKey, .int .u64 p0.Res.OutVal, .int .u64 p0.Val, .int .i64 o148]) rfl rfl rfl rfl (by kernel_rfl) (by kernel_rfl) (hst.blkN 0 rfl 0 22) ?_
                refine OW.stB hst 1 rfl rfl rfl rfl rfl (by kernel_rfl) rfl rfl [.int .i64 p0.What, .int .i64 p0.Task, .int .i64 p0.From, .int .i64 p0.Cmd, .int .i64 p0.Tag, .int .i64 p0.Event, .int .i64 p0.Hook, .int .i64 p0.Prog, .int .i64 p0.Version, .int .i64 p0.Pc, .int .i64 p0.Item.Map, .int .i64 p0.Item.Op, .int .u64 p0.Item.Key, .int .u64 p0.Item.Val, .int .i64 p0.Res.E, .bool p0.Res.Found, .int .u64 p0.Res.Val, .bool p0.Res.Out, .int .u64 p0.Res.OutKey, .int .u64 p0.Res.OutVal, .int .u64 p0.Val, .int .i64 o148] rfl ?_
                intro w200 hst
                refine OW.pure 1 [(7, .bool true)] (by kernel_rfl) ?_
                refine OW.nil rfl ?_
                refine QW.next ?_
                refine CW.ret ?_
                obtain rfl := Option.some.inj hF
                refine QW.ret_ct rfl rfl (run_loadN (cs := [.int .i64 p0.What, .int .i64 p0.Task, .int .i64 p0.From, .int .i64 p0.Cmd, .int .i64 p0.Tag, .int .i64 p0.Event, .int .i64 p0.Hook, .int .i64 p0.Prog, .int .i64 p0.Version, .int .i64 p0.Pc, .int .i64 p0.Item.Map, .int .i64 p0.Item.Op, .int .u64 p0.Item.Key, .int .u64 p0.Item.Val, .int .i64 p0.Res.E, .bool p0.Res.Found, .int .u64 p0.Res.Val, .bool p0.Res.Out, .int .u64 p0.Res.OutKey, .int .u64 p0.Res.OutVal, .int .u64 p0.Val, .int .i64 o148]) (by kernel_rfl) (by kernel_rfl) (hst.blkN 1 rfl 0 22)) rfl ?_
                exact ⟨rfl, hst.keep [] rfl⟩
               ·have hF := ite_f hF hc196
                refine CW.cond_f rfl hc196 ?_
                refine CW.seq ?_
                refine CW.region ?_
                refine OW.pure 2 [(104, .bool (p1 == 109))] (by kernel_rfl) ?_
                refine OW.nil rfl ?_
                refine QW.next ?_
                rcases Bool.eq_false_or_eq_true ((p1 == 109)) with hc201 | hc201
                ·have hF := ite_t hF hc201
                 refine CW.cond_t rfl hc201 ?_
                 have hst := hst.openQ0 0 rfl
                 refine CW.region ?_
                 refine OW.pure 3 [(106, .int .i64 o148), (108, .pointer (some ⟨b5, 10, none⟩))] (by kernel_rfl) ?_
                 refine OW.stB hst 0 rfl rfl rfl rfl rfl (by kernel_rfl) rfl rfl [.int .i64 p0.What, .int .i64 p0.Task, .int .i64 p0.From, .int .i64 p0.Cmd, .int .i64 p0.Tag, .int .i64 p0.Event, .int .i64 p0.Hook, .int .i64 p0.Prog, .int .i64 p0.Version, .int .i64 p0.Pc, .int .i64 o148, .int .i64 p0.Item.Op, .int .u64 p0.Item.Key, .int .u64 p0.Item.Val, .int .i64 p0.Res.E, .bool p0.Res.Found, .int .u64 p0.Res.Val, .bool p0.Res.Out, .int .u64 p0.Res.OutKey, .int .u64 p0.Res.OutVal, .int .u64 p0.Val, .int .i64 p0.E] rfl ?_
                 intro w203 hst
                 refine OW.nil rfl ?_
                 refine QW.block_normal ?_
                 refine QW.next ?_
                 refine CW.seq ?_
                 have hst := hst.openQ0 1 rfl
                 refine CW.region ?_
                 refine OW.ldN (cs := [.int .i64 p0.What, .int .i64 p0.Task, .int .i64 p0.From, .int .i64 p0.Cmd, .int .i64 p0.Tag, .int .i64 p0.Event, .int .i64 p0.Hook, .int .i64 p0.Prog, .int .i64 p0.Version, .int .i64 p0.Pc, .int .i64 o148, .int .i64 p0.Item.Op, .int .u64 p0.Item.Key, .int .u64 p0.Item.Val, .int .i64 p0.Res.E, .bool p0.Res.Found, .int .u64 p0.Res.Val, .bool p0.Res.Out, .int .u64 p0.Res.OutKey, .int .u64 p0.Res.OutVal, .int .u64 p0.Val, .int .i64 p0.E]) rfl rfl rfl rfl (by kernel_rfl) (by kernel_rfl) (hst.blkN 0 rfl 0 22) ?_
                 refine OW.stB hst 1 rfl rfl rfl rfl rfl (by kernel_rfl) rfl rfl [.int .i64 p0.What, .int .i64 p0.Task, .int .i64 p0.From, .int .i64 p0.Cmd, .int .i64 p0.Tag, .int .i64 p0.Event, .int .i64 p0.Hook, .int .i64 p0.Prog, .int .i64 p0.Version, .int .i64 p0.Pc, .int .i64 o148, .int .i64 p0.Item.Op, .int .u64 p0.Item.Key, .int .u64 p0.Item.Val, .int .i64 p0.Res.E, .bool p0.Res.Found, .int .u64 p0.Res.Val, .bool p0.Res.Out, .int .u64 p0.Res.OutKey, .int .u64 p0.Res.OutVal, .int .u64 p0.Val, .int .i64 p0.E] rfl ?_
                 intro w205 hst
                 refine OW.pure 1 [(7, .bool true)] (by kernel_rfl) ?_
                 refine OW.nil rfl ?_
                 refine QW.next ?_
                 refine CW.ret ?_
                 obtain rfl := Option.some.inj hF
                 refine QW.ret_ct rfl rfl (run_loadN (cs := [.int .i64 p0.What, .int .i64 p0.Task, .int .i64 p0.From, .int .i64 p0.Cmd, .int .i64 p0.Tag, .int .i64 p0.Event, .int .i64 p0.Hook, .int .i64 p0.Prog, .int .i64 p0.Version, .int .i64 p0.Pc, .int .i64 o148, .int .i64 p0.Item.Op, .int .u64 p0.Item.Key, .int .u64 p0.Item.Val, .int .i64 p0.Res.E, .bool p0.Res.Found, .int .u64 p0.Res.Val, .bool p0.Res.Out, .int .u64 p0.Res.OutKey, .int .u64 p0.Res.OutVal, .int .u64 p0.Val, .int .i64 p0.E]) (by kernel_rfl) (by kernel_rfl) (hst.blkN 1 rfl 0 22)) rfl ?_
                 exact ⟨rfl, hst.keep [] rfl⟩
                ·have hF := ite_f hF hc201
                 refine CW.cond_f rfl hc201 ?_
                 refine CW.seq ?_
                 refine CW.region ?_
                 refine OW.pure 2 [(109, .bool (p1 == 111))] (by kernel_rfl) ?_
                 refine OW.nil rfl ?_
                 refine QW.next ?_
                 rcases Bool.eq_false_or_eq_true ((p1 == 111)) with hc206 | hc206
                 ·have hF := ite_t hF hc206
                  refine CW.cond_t rfl hc206 ?_
                  have hst := hst.openQ0 0 rfl
                  refine CW.region ?_
                  refine OW.pure 3 [(111, .int .i64 o148), (113, .pointer (some ⟨b5, 11, none⟩))] (by kernel_rfl) ?_
                  refine OW.stB hst 0 rfl rfl rfl rfl rfl (by kernel_rfl) rfl rfl [.int .i64 p0.What, .int .i64 p0.Task, .int .i64 p0.From, .int .i64 p0.Cmd, .int .i64 p0.Tag, .int .i64 p0.Event, .int .i64 p0.Hook, .int .i64 p0.Prog, .int .i64 p0.Version, .int .i64 p0.Pc, .int .i64 p0.Item.Map, .int .i64 o148, .int .u64 p0.Item.Key, .int .u64 p0.Item.Val, .int .i64 p0.Res.E, .bool p0.Res.Found, .int .u64 p0.Res.Val, .bool p0.Res.Out, .int .u64 p0.Res.OutKey, .int .u64 p0.Res.OutVal, .int .u64 p0.Val, .int .i64 p0.E] rfl ?_
                  intro w208 hst
                  refine OW.nil rfl ?_
                  refine QW.block_normal ?_
                  refine QW.next ?_
                  refine CW.seq ?_
                  have hst := hst.openQ0 1 rfl
                  refine CW.region ?_
                  refine OW.ldN (cs := [.int .i64 p0.What, .int .i64 p0.Task, .int .i64 p0.From, .int .i64 p0.Cmd, .int .i64 p0.Tag, .int .i64 p0.Event, .int .i64 p0.Hook, .int .i64 p0.Prog, .int .i64 p0.Version, .int .i64 p0.Pc, .int .i64 p0.Item.Map, .int .i64 o148, .int .u64 p0.Item.Key, .int .u64 p0.Item.Val, .int .i64 p0.Res.E, .bool p0.Res.Found, .int .u64 p0.Res.Val, .bool p0.Res.Out, .int .u64 p0.Res.OutKey, .int .u64 p0.Res.OutVal, .int .u64 p0.Val, .int .i64 p0.E]) rfl rfl rfl rfl (by kernel_rfl) (by kernel_rfl) (hst.blkN 0 rfl 0 22) ?_
                  refine OW.stB hst 1 rfl rfl rfl rfl rfl (by kernel_rfl) rfl rfl [.int .i64 p0.What, .int .i64 p0.Task, .int .i64 p0.From, .int .i64 p0.Cmd, .int .i64 p0.Tag, .int .i64 p0.Event, .int .i64 p0.Hook, .int .i64 p0.Prog, .int .i64 p0.Version, .int .i64 p0.Pc, .int .i64 p0.Item.Map, .int .i64 o148, .int .u64 p0.Item.Key, .int .u64 p0.Item.Val, .int .i64 p0.Res.E, .bool p0.Res.Found, .int .u64 p0.Res.Val, .bool p0.Res.Out, .int .u64 p0.Res.OutKey, .int .u64 p0.Res.OutVal, .int .u64 p0.Val, .int .i64 p0.E] rfl ?_
                  intro w210 hst
                  refine OW.pure 1 [(7, .bool true)] (by kernel_rfl) ?_
                  refine OW.nil rfl ?_
                  refine QW.next ?_
                  refine CW.ret ?_
                  obtain rfl := Option.some.inj hF
                  refine QW.ret_ct rfl rfl (run_loadN (cs := [.int .i64 p0.What, .int .i64 p0.Task, .int .i64 p0.From, .int .i64 p0.Cmd, .int .i64 p0.Tag, .int .i64 p0.Event, .int .i64 p0.Hook, .int .i64 p0.Prog, .int .i64 p0.Version, .int .i64 p0.Pc, .int .i64 p0.Item.Map, .int .i64 o148, .int .u64 p0.Item.Key, .int .u64 p0.Item.Val, .int .i64 p0.Res.E, .bool p0.Res.Found, .int .u64 p0.Res.Val, .bool p0.Res.Out, .int .u64 p0.Res.OutKey, .int .u64 p0.Res.OutVal, .int .u64 p0.Val, .int .i64 p0.E]) (by kernel_rfl) (by kernel_rfl) (hst.blkN 1 rfl 0 22)) rfl ?_
                  exact ⟨rfl, hst.keep [] rfl⟩
                 ·have hF := ite_f hF hc206
                  refine CW.cond_f rfl hc206 ?_
                  refine CW.seq ?_
                  refine CW.region ?_
                  refine OW.pure 2 [(114, .bool (p1 == 121))] (by kernel_rfl) ?_
                  refine OW.nil rfl ?_
                  refine QW.next ?_
                  rcases Bool.eq_false_or_eq_true ((p1 == 121)) with hc211 | hc211
                  ·have hF := ite_t hF hc211
                   refine CW.cond_t rfl hc211 ?_
                   have hst := hst.openQ0 0 rfl
                   refine CW.region ?_
                   refine OW.pure 3 [(116, .int .i64 o148), (118, .pointer (some ⟨b5, 14, none⟩))] (by kernel_rfl) ?_
                   refine OW.stB hst 0 rfl rfl rfl rfl rfl (by kernel_rfl) rfl rfl [.int .i64 p0.What, .int .i64 p0.Task, .int .i64 p0.From, .int .i64 p0.Cmd, .int .i64 p0.Tag, .int .i64 p0.Event, .int .i64 p0.Hook, .int .i64 p0.Prog, .int .i64 p0.Version, .int .i64 p0.Pc, .int .i64 p0.Item.Map, .int .i64 p0.Item.Op, .int .u64 p0.Item.Key, .int .u64 p0.Item.Val, .int .i64 o148, .bool p0.Res.Found, .int .u64 p0.Res.Val, .bool p0.Res.Out, .int .u64 p0.Res.OutKey, .int .u64 p0.Res.OutVal, .int .u64 p0.Val, .int .i64 p0.E] rfl ?_
                   intro w213 hst
                   refine OW.nil rfl ?_
                   refine QW.block_normal ?_
                   refine QW.next ?_
                   refine CW.seq ?_
                   have hst := hst.openQ0 1 rfl
                   refine CW.region ?_
                   refine OW.ldN (cs := [.int .i64 p0.What, .int .i64 p0.Task, .int .i64 p0.From, .int .i64 p0.Cmd, .int .i64 p0.Tag, .int .i64 p0.Event, .int .i64 p0.Hook, .int .i64 p0.Prog, .int .i64 p0.Version, .int .i64 p0.Pc, .int .i64 p0.Item.Map, .int .i64 p0.Item.Op, .int .u64 p0.Item.Key, .int .u64 p0.Item.Val, .int .i64 o148, .bool p0.Res.Found, .int .u64 p0.Res.Val, .bool p0.Res.Out, .int .u64 p0.Res.OutKey, .int .u64 p0.Res.OutVal, .int .u64 p0.Val, .int .i64 p0.E]) rfl rfl rfl rfl (by kernel_rfl) (by kernel_rfl) (hst.blkN 0 rfl 0 22) ?_
                   refine OW.stB hst 1 rfl rfl rfl rfl rfl (by kernel_rfl) rfl rfl [.int .i64 p0.What, .int .i64 p0.Task, .int .i64 p0.From, .int .i64 p0.Cmd, .int .i64 p0.Tag, .int .i64 p0.Event, .int .i64 p0.Hook, .int .i64 p0.Prog, .int .i64 p0.Version, .int .i64 p0.Pc, .int .i64 p0.Item.Map, .int .i64 p0.Item.Op, .int .u64 p0.Item.Key, .int .u64 p0.Item.Val, .int .i64 o148, .bool p0.Res.Found, .int .u64 p0.Res.Val, .bool p0.Res.Out, .int .u64 p0.Res.OutKey, .int .u64 p0.Res.OutVal, .int .u64 p0.Val, .int .i64 p0.E] rfl ?_
                   intro w215 hst
                   refine OW.pure 1 [(7, .bool true)] (by kernel_rfl) ?_
                   refine OW.nil rfl ?_
                   refine QW.next ?_
                   refine CW.ret ?_
                   obtain rfl := Option.some.inj hF
                   refine QW.ret_ct rfl rfl (run_loadN (cs := [.int .i64 p0.What, .int .i64 p0.Task, .int .i64 p0.From, .int .i64 p0.Cmd, .int .i64 p0.Tag, .int .i64 p0.Event, .int .i64 p0.Hook, .int .i64 p0.Prog, .int .i64 p0.Version, .int .i64 p0.Pc, .int .i64 p0.Item.Map, .int .i64 p0.Item.Op, .int .u64 p0.Item.Key, .int .u64 p0.Item.Val, .int .i64 o148, .bool p0.Res.Found, .int .u64 p0.Res.Val, .bool p0.Res.Out, .int .u64 p0.Res.OutKey, .int .u64 p0.Res.OutVal, .int .u64 p0.Val, .int .i64 p0.E]) (by kernel_rfl) (by kernel_rfl) (hst.blkN 1 rfl 0 22)) rfl ?_
                   exact ⟨rfl, hst.keep [] rfl⟩
                  ·have hF := ite_f hF hc211
                   refine CW.cond_f rfl hc211 ?_
                   refine CW.seq ?_
                   refine CW.region ?_
                   refine OW.pure 2 [(119, .bool (p1 == 98))] (by kernel_rfl) ?_
                   refine OW.nil rfl ?_
                   refine QW.next ?_
                   rcases Bool.eq_false_or_eq_true ((p1 == 98)) with hc216 | hc216
                   ·have hF := ite_t hF hc216
                    refine CW.cond_t rfl hc216 ?_
                    have hst := hst.openQ0 0 rfl
                    refine CW.region ?_
                    refine OW.pure 4 [(122, .bool (o148 == 1)), (124, .pointer (some ⟨b5, 15, none⟩))] (by kernel_rfl) ?_
                    refine OW.stB hst 0 rfl rfl rfl rfl rfl (by kernel_rfl) rfl rfl [.int .i64 p0.What, .int .i64 p0.Task, .int .i64 p0.From, .int .i64 p0.Cmd, .int .i64 p0.Tag, .int .i64 p0.Event, .int .i64 p0.Hook, .int .i64 p0.Prog, .int .i64 p0.Version, .int .i64 p0.Pc, .int .i64 p0.Item.Map, .int .i64 p0.Item.Op, .int .u64 p0.Item.Key, .int .u64 p0.Item.Val, .int .i64 p0.Res.E, .bool (o148 == 1), .int .u64 p0.Res.Val, .bool p0.Res.Out, .int .u64 p0.Res.OutKey, .int .u64 p0.Res.OutVal, .int .u64 p0.Val, .int .i64 p0.E] rfl ?_
                    intro w218 hst
                    refine OW.nil rfl ?_
                    refine QW.block_normal ?_
                    refine QW.next ?_
                    refine CW.seq ?_
                    have hst := hst.openQ0 1 rfl
                    refine CW.region ?_
                    refine OW.ldN (cs := [.int .i64 p0.What, .int .i64 p0.Task, .int .i64 p0.From, .int .i64 p0.Cmd, .int .i64 p0.Tag, .int .i64 p0.Event, .int .i64 p0.Hook, .int .i64 p0.Prog, .int .i64 p0.Version, .int .i64 p0.Pc, .int .i64 p0.Item.Map, .int .i64 p0.Item.Op, .int .u64 p0.Item.Key, .int .u64 p0.Item.Val, .int .i64 p0.Res.E, .bool (o148 == 1), .int .u64 p0.Res.Val, .bool p0.Res.Out, .int .u64 p0.Res.OutKey, .int .u64 p0.Res.OutVal, .int .u64 p0.Val, .int .i64 p0.E]) rfl rfl rfl rfl (by kernel_rfl) (by kernel_rfl) (hst.blkN 0 rfl 0 22) ?_
                    refine OW.stB hst 1 rfl rfl rfl rfl rfl (by kernel_rfl) rfl rfl [.int .i64 p0.What, .int .i64 p0.Task, .int .i64 p0.From, .int .i64 p0.Cmd, .int .i64 p0.Tag, .int .i64 p0.Event, .int .i64 p0.Hook, .int .i64 p0.Prog, .int .i64 p0.Version, .int .i64 p0.Pc, .int .i64 p0.Item.Map, .int .i64 p0.Item.Op, .int .u64 p0.Item.Key, .int .u64 p0.Item.Val, .int .i64 p0.Res.E, .bool (o148 == 1), .int .u64 p0.Res.Val, .bool p0.Res.Out, .int .u64 p0.Res.OutKey, .int .u64 p0.Res.OutVal, .int .u64 p0.Val, .int .i64 p0.E] rfl ?_
                    intro w220 hst
                    refine OW.pure 1 [(7, .bool true)] (by kernel_rfl) ?_
                    refine OW.nil rfl ?_
                    refine QW.next ?_
                    refine CW.ret ?_
                    obtain rfl := Option.some.inj hF
                    refine QW.ret_ct rfl rfl (run_loadN (cs := [.int .i64 p0.What, .int .i64 p0.Task, .int .i64 p0.From, .int .i64 p0.Cmd, .int .i64 p0.Tag, .int .i64 p0.Event, .int .i64 p0.Hook, .int .i64 p0.Prog, .int .i64 p0.Version, .int .i64 p0.Pc, .int .i64 p0.Item.Map, .int .i64 p0.Item.Op, .int .u64 p0.Item.Key, .int .u64 p0.Item.Val, .int .i64 p0.Res.E, .bool (o148 == 1), .int .u64 p0.Res.Val, .bool p0.Res.Out, .int .u64 p0.Res.OutKey, .int .u64 p0.Res.OutVal, .int .u64 p0.Val, .int .i64 p0.E]) (by kernel_rfl) (by kernel_rfl) (hst.blkN 1 rfl 0 22)) rfl ?_
                    exact ⟨rfl, hst.keep [] rfl⟩
                   ·have hF := ite_f hF hc216
                    refine CW.cond_f rfl hc216 ?_
                    refine CW.seq ?_
                    have hst := hst.openQ0 0 rfl
                    have hst := hst.openQ0 1 rfl
                    refine CW.region ?_
                    refine OW.ldN (cs := [.int .i64 p0.What, .int .i64 p0.Task, .int .i64 p0.From, .int .i64 p0.Cmd, .int .i64 p0.Tag, .int .i64 p0.Event, .int .i64 p0.Hook, .int .i64 p0.Prog, .int .i64 p0.Version, .int .i64 p0.Pc, .int .i64 p0.Item.Map, .int .i64 p0.Item.Op, .int .u64 p0.Item.Key, .int .u64 p0.Item.Val, .int .i64 p0.Res.E, .bool p0.Res.Found, .int .u64 p0.Res.Val, .bool p0.Res.Out, .int .u64 p0.Res.OutKey, .int .u64 p0.Res.OutVal, .int .u64 p0.Val, .int .i64 p0.E]) rfl rfl rfl rfl (by kernel_rfl) (by kernel_rfl) (hst.blkN 0 rfl 0 22) ?_
                    refine OW.pure 2 [(61, .int .u8 p1), (62, .int .u64 t88)] (by kernel_rfl) ?_
                    obtain ⟨r226, hr227, hF⟩ := bind_some' hF
                    refine OW.fn rfl rfl rfl rfl (by kernel_rfl) (tappetref26_broad_ok _ p0 p1 t88 r226 hr227 (hst.part [] rfl)) ?_
                    rintro e w228 ⟨rfl, hst229⟩
                    refine ⟨_, rfl, ?_⟩
                    have hst := hst.join (idx := []) (rest := [0, 1]) rfl hst229
                    refine OW.stB hst 1 rfl rfl rfl rfl rfl (by kernel_rfl) rfl rfl [.int .i64 r226.What, .int .i64 r226.Task, .int .i64 r226.From, .int .i64 r226.Cmd, .int .i64 r226.Tag, .int .i64 r226.Event, .int .i64 r226.Hook, .int .i64 r226.Prog, .int .i64 r226.Version, .int .i64 r226.Pc, .int .i64 r226.Item.Map, .int .i64 r226.Item.Op, .int .u64 r226.Item.Key, .int .u64 r226.Item.Val, .int .i64 r226.Res.E, .bool r226.Res.Found, .int .u64 r226.Res.Val, .bool r226.Res.Out, .int .u64 r226.Res.OutKey, .int .u64 r226.Res.OutVal, .int .u64 r226.Val, .int .i64 r226.E] rfl ?_
                    intro w230 hst
                    refine OW.pure 1 [(7, .bool true)] (by kernel_rfl) ?_
                    refine OW.nil rfl ?_
                    refine QW.next ?_
                    refine CW.ret ?_
                    refine QW.block_ret ?_
                    refine QW.then_ret ?_
                    obtain rfl := Option.some.inj hF
                    refine QW.ret_ct rfl rfl (run_loadN (cs := [.int .i64 r226.What, .int .i64 r226.Task, .int .i64 r226.From, .int .i64 r226.Cmd, .int .i64 r226.Tag, .int .i64 r226.Event, .int .i64 r226.Hook, .int .i64 r226.Prog, .int .i64 r226.Version, .int .i64 r226.Pc, .int .i64 r226.Item.Map, .int .i64 r226.Item.Op, .int .u64 r226.Item.Key, .int .u64 r226.Item.Val, .int .i64 r226.Res.E, .bool r226.Res.Found, .int .u64 r226.Res.Val, .bool r226.Res.Out, .int .u64 r226.Res.OutKey, .int .u64 r226.Res.OutVal, .int .u64 r226.Val, .int .i64 r226.E]) (by kernel_rfl) (by kernel_rfl) (hst.blkN 1 rfl 0 22)) rfl ?_
                    exact ⟨rfl, hst.keep [] rfl⟩

set_option maxRecDepth 10000 in
set_option maxHeartbeats 4000000 in
theorem tappetref26_unsigned_ok (w : World) (p0 : api_Entry) (p1 : Int) (r : Int × Bool) (hF : tappetref26_unsigned p0 p1 = some r)
    (hst : St w (fp []) w []) :
    Calls Tryd.prog 29 [.agg [.int .i64 p0.What, .int .i64 p0.Task, .int .i64 p0.From, .int .i64 p0.Cmd, .int .i64 p0.Tag, .int .i64 p0.Event, .int .i64 p0.Hook, .int .i64 p0.Prog, .int .i64 p0.Version, .int .i64 p0.Pc, .int .i64 p0.Item.Map, .int .i64 p0.Item.Op, .int .u64 p0.Item.Key, .int .u64 p0.Item.Val, .int .i64 p0.Res.E, .bool p0.Res.Found, .int .u64 p0.Res.Val, .bool p0.Res.Out, .int .u64 p0.Res.OutKey, .int .u64 p0.Res.OutVal, .int .u64 p0.Val, .int .i64 p0.E].toArray, .int .u8 p1].toArray w (fun e w' => e = .returned (.tuple #[.int .u64 r.1, .bool r.2]) ∧ St w (fp []) w' []) := by
 refine CW.start (N := 36) Tryd.func29 rfl rfl rfl ?_
 refine CW.seq ?_
 refine CW.region ?_
 refine OW.box hst rfl rfl rfl rfl [.int .i64 p0.What, .int .i64 p0.Task, .int .i64 p0.From, .int .i64 p0.Cmd, .int .i64 p0.Tag, .int .i64 p0.Event, .int .i64 p0.Hook, .int .i64 p0.Prog, .int .i64 p0.Version, .int .i64 p0.Pc, .int .i64 p0.Item.Map, .int .i64 p0.Item.Op, .int .u64 p0.Item.Key, .int .u64 p0.Item.Val, .int .i64 p0.Res.E, .bool p0.Res.Found, .int .u64 p0.Res.Val, .bool p0.Res.Out, .int .u64 p0.Res.OutKey, .int .u64 p0.Res.OutVal, .int .u64 p0.Val, .int .i64 p0.E] rfl ?_
 intro b3 w4 hst
 refine OW.pure 2 [] (by kernel_rfl) ?_
 refine OW.nil rfl ?_
 refine QW.next ?_
 refine CW.seq ?_
 refine CW.seq ?_
 refine CW.region ?_
 refine OW.pure 1 [(6, .int .u8 p1)] (by kernel_rfl) ?_
 refine OW.nil rfl ?_
 refine QW.next ?_
 refine CW.block ?_
 refine CW.seq ?_
 refine CW.region ?_
 refine OW.pure 2 [(7, .bool (p1 == 110))] (by kernel_rfl) ?_
 refine OW.nil rfl ?_
 refine QW.next ?_
 rcases Bool.eq_false_or_eq_true ((p1 == 110)) with hc5 | hc5
 ·have hF := ite_t hF hc5
  refine CW.cond_t rfl hc5 ?_
  refine CW.seq ?_
  refine CW.region ?_
  refine OW.pure 1 [(9, .pointer (some ⟨b3, 20, none⟩))] (by kernel_rfl) ?_
  refine OW.ld rfl rfl rfl rfl (by kernel_rfl) (hst.blk 0 rfl rfl) ?_
  refine OW.pure 2 [(4, .int .u64 p0.Val), (5, .bool true)] (by kernel_rfl) ?_
  refine OW.nil rfl ?_
  refine QW.next ?_
  refine CW.ret ?_
  refine QW.block_ret ?_
  refine QW.then_ret ?_
  obtain rfl := Option.some.inj hF
  refine QW.ret2 rfl rfl rfl ?_
  exact ⟨rfl, hst.keep [] rfl⟩
 ·have hF := ite_f hF hc5
  refine CW.cond_f rfl hc5 ?_
  refine CW.seq ?_
  refine CW.region ?_
  refine OW.pure 2 [(11, .bool (p1 == 107))] (by kernel_rfl) ?_
  refine OW.nil rfl ?_
  refine QW.next ?_
  rcases Bool.eq_false_or_eq_true ((p1 == 107)) with hc6 | hc6
  ·have hF := ite_t hF hc6
   refine CW.cond_t rfl hc6 ?_
   refine CW.seq ?_
   refine CW.region ?_
   refine OW.pure 2 [(14, .pointer (some ⟨b3, 12, none⟩))] (by kernel_rfl) ?_
   refine OW.ld rfl rfl rfl rfl (by kernel_rfl) (hst.blk 0 rfl rfl) ?_
   refine OW.pure 2 [(4, .int .u64 p0.Item.Key), (5, .bool true)] (by kernel_rfl) ?_
   refine OW.nil rfl ?_
   refine QW.next ?_
   refine CW.ret ?_
   refine QW.block_ret ?_
   refine QW.then_ret ?_
   obtain rfl := Option.some.inj hF
   refine QW.ret2 rfl rfl rfl ?_
   exact ⟨rfl, hst.keep [] rfl⟩
  ·have hF := ite_f hF hc6
   refine CW.cond_f rfl hc6 ?_
   refine CW.seq ?_
   refine CW.region ?_
   refine OW.pure 2 [(16, .bool (p1 == 119))] (by kernel_rfl) ?_
   refine OW.nil rfl ?_
   refine QW.next ?_
   rcases Bool.eq_false_or_eq_true ((p1 == 119)) with hc7 | hc7
   ·have hF := ite_t hF hc7
    refine CW.cond_t rfl hc7 ?_
    refine CW.seq ?_
    refine CW.region ?_
    refine OW.pure 2 [(19, .pointer (some ⟨b3, 13, none⟩))] (by kernel_rfl) ?_
    refine OW.ld rfl rfl rfl rfl (by kernel_rfl) (hst.blk 0 rfl rfl) ?_
    refine OW.pure 2 [(4, .int .u64 p0.Item.Val), (5, .bool true)] (by kernel_rfl) ?_
    refine OW.nil rfl ?_
    refine QW.next ?_
    refine CW.ret ?_
    refine QW.block_ret ?_
    refine QW.then_ret ?_
    obtain rfl := Option.some.inj hF
    refine QW.ret2 rfl rfl rfl ?_
    exact ⟨rfl, hst.keep [] rfl⟩
   ·have hF := ite_f hF hc7
    refine CW.cond_f rfl hc7 ?_
    refine CW.seq ?_
    refine CW.region ?_
    refine OW.pure 2 [(21, .bool (p1 == 114))] (by kernel_rfl) ?_
    refine OW.nil rfl ?_
    refine QW.next ?_
    rcases Bool.eq_false_or_eq_true ((p1 == 114)) with hc8 | hc8
    ·have hF := ite_t hF hc8
     refine CW.cond_t rfl hc8 ?_
     refine CW.seq ?_
     refine CW.region ?_
     refine OW.pure 2 [(24, .pointer (some ⟨b3, 16, none⟩))] (by kernel_rfl) ?_
     refine OW.ld rfl rfl rfl rfl (by kernel_rfl) (hst.blk 0 rfl rfl) ?_
     refine OW.pure 2 [(4, .int .u64 p0.Res.Val), (5, .bool true)] (by kernel_rfl) ?_
     refine OW.nil rfl ?_
     refine QW.next ?_
     refine CW.ret ?_
     refine QW.block_ret ?_
     refine QW.then_ret ?_
     obtain rfl := Option.some.inj hF
     refine QW.ret2 rfl rfl rfl ?_
     exact ⟨rfl, hst.keep [] rfl⟩
    ·have hF := ite_f hF hc8
     refine CW.cond_f rfl hc8 ?_
     refine CW.seq ?_
     refine CW.region ?_
     refine OW.pure 2 [(26, .bool (p1 == 79))] (by kernel_rfl) ?_
     refine OW.nil rfl ?_
     refine QW.next ?_
     rcases Bool.eq_false_or_eq_true ((p1 == 79)) with hc9 | hc9
     ·have hF := ite_t hF hc9
      refine CW.cond_t rfl hc9 ?_
      refine CW.seq ?_
      refine CW.region ?_
      refine OW.pure 2 [(29, .pointer (some ⟨b3, 18, none⟩))] (by kernel_rfl) ?_
      refine OW.ld rfl rfl rfl rfl (by kernel_rfl) (hst.blk 0 rfl rfl) ?_
      refine OW.pure 2 [(4, .int .u64 p0.Res.OutKey), (5, .bool true)] (by kernel_rfl) ?_
      refine OW.nil rfl ?_
      refine QW.next ?_
      refine CW.ret ?_
      refine QW.block_ret ?_
      refine QW.then_ret ?_
      obtain rfl := Option.some.inj hF
      refine QW.ret2 rfl rfl rfl ?_
      exact ⟨rfl, hst.keep [] rfl⟩
     ·have hF := ite_f hF hc9
      refine CW.cond_f rfl hc9 ?_
      refine CW.seq ?_
      refine CW.region ?_
      refine OW.pure 2 [(31, .bool (p1 == 86))] (by kernel_rfl) ?_
      refine OW.nil rfl ?_
      refine QW.next ?_
      rcases Bool.eq_false_or_eq_true ((p1 == 86)) with hc10 | hc10
      ·have hF := ite_t hF hc10
       refine CW.cond_t rfl hc10 ?_
       refine CW.seq ?_
       refine CW.region ?_
       refine OW.pure 2 [(34, .pointer (some ⟨b3, 19, none⟩))] (by kernel_rfl) ?_
       refine OW.ld rfl rfl rfl rfl (by kernel_rfl) (hst.blk 0 rfl rfl) ?_
       refine OW.pure 2 [(4, .int .u64 p0.Res.OutVal), (5, .bool true)] (by kernel_rfl) ?_
       refine OW.nil rfl ?_
       refine QW.next ?_
       refine CW.ret ?_
       refine QW.block_ret ?_
       refine QW.then_ret ?_
       obtain rfl := Option.some.inj hF
       refine QW.ret2 rfl rfl rfl ?_
       exact ⟨rfl, hst.keep [] rfl⟩
      ·have hF := ite_f hF hc10
       refine CW.cond_f rfl hc10 ?_
       refine CW.skip ?_
       refine QW.block_normal ?_
       refine QW.next ?_
       refine CW.seq ?_
       refine CW.region ?_
       refine OW.pure 2 [(4, .int .u64 0), (5, .bool false)] (by kernel_rfl) ?_
       refine OW.nil rfl ?_
       refine QW.next ?_
       refine CW.ret ?_
       obtain rfl := Option.some.inj hF
       refine QW.ret2 rfl rfl rfl ?_
       exact ⟨rfl, hst.keep [] rfl⟩

set_option maxRecDepth 10000 in
set_option maxHeartbeats 4000000 in
theorem tappetref26_digits_ok (w : World) (fu : Nat) (p0 : Int) (r : ByteArray) (hF : tappetref26_digits fu p0 = some r)
    (hst : St w (fp []) w []) :
    Calls Tryd.prog 47 [.int .u64 p0].toArray w (fun e w' => e = .returned (.string r) ∧ St w (fp []) w' []) := by
 revert hst hF
 revert w p0 r
 induction fu with
 | zero => intro w p0 r hF hst; cases hF
 | succ fu ih =>
  intro w p0 r hF hst
  rw [tappetref26_digits] at hF
  refine CW.start (N := 16) Tryd.func47 rfl rfl rfl ?_
  refine CW.seq ?_
  refine CW.region ?_
  refine OW.pure 1 [] (by kernel_rfl) ?_
  refine OW.nil rfl ?_
  refine QW.next ?_
  refine CW.seq ?_
  refine CW.seq ?_
  refine CW.region ?_
  refine OW.pure 2 [(4, .bool (decide (p0 < 10)))] (by kernel_rfl) ?_
  refine OW.nil rfl ?_
  refine QW.next ?_
  rcases Bool.eq_false_or_eq_true (decide (p0 < 10)) with hc1 | hc1
  ·have hF := ite_t hF hc1
   refine CW.cond_t rfl hc1 ?_
   refine CW.seq ?_
   refine CW.region ?_
   refine OW.pure 3 [(5, .int .u64 p0), (7, .int .u64 (wu64 (p0 + 1)))] (by kernel_rfl) ?_
   obtain ⟨x4, hx5, hF⟩ := bind_some' hF
   refine OW.op (v := .string x4) rfl rfl rfl rfl (fun a ha => ssub_run rfl rfl rfl rfl (by kernel_rfl) hx5 a _ ha) ?_
   refine OW.pure 1 [(2, .string x4)] (by kernel_rfl) ?_
   refine OW.nil rfl ?_
   refine QW.next ?_
   refine CW.ret ?_
   refine QW.then_ret ?_
   obtain rfl := Option.some.inj hF
   refine QW.ret1 rfl rfl ?_
   exact ⟨rfl, hst.keep [] rfl⟩
  ·have hF := ite_f hF hc1
   refine CW.cond_f rfl hc1 ?_
   refine CW.skip ?_
   refine QW.next ?_
   refine CW.seq ?_
   refine CW.region ?_
   refine OW.pure 2 [(10, .int .u64 (wu64 (p0.tdiv 10)))] (by kernel_rfl) ?_
   obtain ⟨r16, hr17, hF⟩ := bind_some' hF
   refine OW.fn rfl rfl rfl rfl (by kernel_rfl) (ih _ (wu64 (p0.tdiv 10)) r16 hr17 (hst.part [] rfl)) ?_
   rintro e w18 ⟨rfl, hst19⟩
   refine ⟨_, rfl, ?_⟩
   have hst := hst.join (idx := []) (rest := []) rfl hst19
   refine OW.pure 2 [(13, .int .u64 (p0.tmod 10))] (by kernel_rfl) ?_
   obtain ⟨r20, hr21, hF⟩ := bind_some' hF
   refine OW.fn rfl rfl rfl rfl (by kernel_rfl) (ih _ (p0.tmod 10) r20 hr21 (hst.part [] rfl)) ?_
   rintro e w22 ⟨rfl, hst23⟩
   refine ⟨_, rfl, ?_⟩
   have hst := hst.join (idx := []) (rest := []) rfl hst23
   obtain ⟨x24, hx25, hF⟩ := bind_some' hF
   refine OW.op (v := .string x24) rfl rfl rfl rfl (fun a ha => cat_run rfl rfl rfl (by kernel_rfl) hx25 a _ ha) ?_
   refine OW.pure 1 [(2, .string x24)] (by kernel_rfl) ?_
   refine OW.nil rfl ?_
   refine QW.next ?_
   refine CW.ret ?_
   obtain rfl := Option.some.inj hF
   refine QW.ret1 rfl rfl ?_
   exact ⟨rfl, hst.keep [] rfl⟩

set_option maxRecDepth 10000 in
set_option maxHeartbeats 4000000 in
theorem tappetref26_signed_ok (w : World) (p0 : api_Entry) (p1 : Int) (r : Int) (hF : tappetref26_signed p0 p1 = some r)
    (hst : St w (fp []) w []) :
    Calls Tryd.prog 31 [.agg [.int .i64 p0.What, .int .i64 p0.Task, .int .i64 p0.From, .int .i64 p0.Cmd, .int .i64 p0.Tag, .int .i64 p0.Event, .int .i64 p0.Hook, .int .i64 p0.Prog, .int .i64 p0.Version, .int .i64 p0.Pc, .int .i64 p0.Item.Map, .int .i64 p0.Item.Op, .int .u64 p0.Item.Key, .int .u64 p0.Item.Val, .int .i64 p0.Res.E, .bool p0.Res.Found, .int .u64 p0.Res.Val, .bool p0.Res.Out, .int .u64 p0.Res.OutKey, .int .u64 p0.Res.OutVal, .int .u64 p0.Val, .int .i64 p0.E].toArray, .int .u8 p1].toArray w (fun e w' => e = .returned (.int .i64 r) ∧ St w (fp []) w' []) := by
 refine CW.start (N := 64) Tryd.func31 rfl rfl rfl ?_
 refine CW.seq ?_
 refine CW.region ?_
 refine OW.box hst rfl rfl rfl rfl [.int .i64 p0.What, .int .i64 p0.Task, .int .i64 p0.From, .int .i64 p0.Cmd, .int .i64 p0.Tag, .int .i64 p0.Event, .int .i64 p0.Hook, .int .i64 p0.Prog, .int .i64 p0.Version, .int .i64 p0.Pc, .int .i64 p0.Item.Map, .int .i64 p0.Item.Op, .int .u64 p0.Item.Key, .int .u64 p0.Item.Val, .int .i64 p0.Res.E, .bool p0.Res.Found, .int .u64 p0.Res.Val, .bool p0.Res.Out, .int .u64 p0.Res.OutKey, .int .u64 p0.Res.OutVal, .int .u64 p0.Val, .int .i64 p0.E] rfl ?_
 intro b3 w4 hst
 refine OW.pure 1 [] (by kernel_rfl) ?_
 refine OW.nil rfl ?_
 refine QW.next ?_
 refine CW.seq ?_
 refine CW.seq ?_
 refine CW.region ?_
 refine OW.pure 1 [(5, .int .u8 p1)] (by kernel_rfl) ?_
 refine OW.nil rfl ?_
 refine QW.next ?_
 refine CW.block ?_
 refine CW.seq ?_
 refine CW.region ?_
 refine OW.pure 2 [(6, .bool (p1 == 116))] (by kernel_rfl) ?_
 refine OW.nil rfl ?_
 refine QW.next ?_
 rcases Bool.eq_false_or_eq_true ((p1 == 116)) with hc5 | hc5
 ·have hF := ite_t hF hc5
  refine CW.cond_t rfl hc5 ?_
  refine CW.seq ?_
  refine CW.region ?_
  refine OW.pure 1 [(8, .pointer (some ⟨b3, 1, none⟩))] (by kernel_rfl) ?_
  refine OW.ld rfl rfl rfl rfl (by kernel_rfl) (hst.blk 0 rfl rfl) ?_
  refine OW.pure 1 [(4, .int .i64 p0.Task)] (by kernel_rfl) ?_
  refine OW.nil rfl ?_
  refine QW.next ?_
  refine CW.ret ?_
  refine QW.block_ret ?_
  refine QW.then_ret ?_
  obtain rfl := Option.some.inj hF
  refine QW.ret1 rfl rfl ?_
  exact ⟨rfl, hst.keep [] rfl⟩
 ·have hF := ite_f hF hc5
  refine CW.cond_f rfl hc5 ?_
  refine CW.seq ?_
  refine CW.region ?_
  refine OW.pure 2 [(10, .bool (p1 == 102))] (by kernel_rfl) ?_
  refine OW.nil rfl ?_
  refine QW.next ?_
  rcases Bool.eq_false_or_eq_true ((p1 == 102)) with hc6 | hc6
  ·have hF := ite_t hF hc6
   refine CW.cond_t rfl hc6 ?_
   refine CW.seq ?_
   refine CW.region ?_
   refine OW.pure 1 [(12, .pointer (some ⟨b3, 2, none⟩))] (by kernel_rfl) ?_
   refine OW.ld rfl rfl rfl rfl (by kernel_rfl) (hst.blk 0 rfl rfl) ?_
   refine OW.pure 1 [(4, .int .i64 p0.From)] (by kernel_rfl) ?_
   refine OW.nil rfl ?_
   refine QW.next ?_
   refine CW.ret ?_
   refine QW.block_ret ?_
   refine QW.then_ret ?_
   obtain rfl := Option.some.inj hF
   refine QW.ret1 rfl rfl ?_
   exact ⟨rfl, hst.keep [] rfl⟩
  ·have hF := ite_f hF hc6
   refine CW.cond_f rfl hc6 ?_
   refine CW.seq ?_
   refine CW.region ?_
   refine OW.pure 2 [(14, .bool (p1 == 99))] (by kernel_rfl) ?_
   refine OW.nil rfl ?_
   refine QW.next ?_
   rcases Bool.eq_false_or_eq_true ((p1 == 99)) with hc7 | hc7
   ·have hF := ite_t hF hc7
    refine CW.cond_t rfl hc7 ?_
    refine CW.seq ?_
    refine CW.region ?_
    refine OW.pure 1 [(16, .pointer (some ⟨b3, 3, none⟩))] (by kernel_rfl) ?_
    refine OW.ld rfl rfl rfl rfl (by kernel_rfl) (hst.blk 0 rfl rfl) ?_
    refine OW.pure 1 [(4, .int .i64 p0.Cmd)] (by kernel_rfl) ?_
    refine OW.nil rfl ?_
    refine QW.next ?_
    refine CW.ret ?_
    refine QW.block_ret ?_
    refine QW.then_ret ?_
    obtain rfl := Option.some.inj hF
    refine QW.ret1 rfl rfl ?_
    exact ⟨rfl, hst.keep [] rfl⟩
   ·have hF := ite_f hF hc7
    refine CW.cond_f rfl hc7 ?_
    refine CW.seq ?_
    refine CW.region ?_
    refine OW.pure 2 [(18, .bool (p1 == 103))] (by kernel_rfl) ?_
    refine OW.nil rfl ?_
    refine QW.next ?_
    rcases Bool.eq_false_or_eq_true ((p1 == 103)) with hc8 | hc8
    ·have hF := ite_t hF hc8
     refine CW.cond_t rfl hc8 ?_
     refine CW.seq ?_
     refine CW.region ?_
     refine OW.pure 1 [(20, .pointer (some ⟨b3, 4, none⟩))] (by kernel_rfl) ?_
     refine OW.ld rfl rfl rfl rfl (by kernel_rfl) (hst.blk 0 rfl rfl) ?_
     refine OW.pure 1 [(4, .int .i64 p0.Tag)] (by kernel_rfl) ?_
     refine OW.nil rfl ?_
     refine QW.next ?_
     refine CW.ret ?_
     refine QW.block_ret ?_
     refine QW.then_ret ?_
     obtain rfl := Option.some.inj hF
     refine QW.ret1 rfl rfl ?_
     exact ⟨rfl, hst.keep [] rfl⟩
    ·have hF := ite_f hF hc8
     refine CW.cond_f rfl hc8 ?_
     refine CW.seq ?_
     refine CW.region ?_
     refine OW.pure 2 [(22, .bool (p1 == 101))] (by kernel_rfl) ?_
     refine OW.nil rfl ?_
     refine QW.next ?_
     rcases Bool.eq_false_or_eq_true ((p1 == 101)) with hc9 | hc9
     ·have hF := ite_t hF hc9
      refine CW.cond_t rfl hc9 ?_
      refine CW.seq ?_
      refine CW.region ?_
      refine OW.pure 1 [(24, .pointer (some ⟨b3, 5, none⟩))] (by kernel_rfl) ?_
      refine OW.ld rfl rfl rfl rfl (by kernel_rfl) (hst.blk 0 rfl rfl) ?_
      refine OW.pure 1 [(4, .int .i64 p0.Event)] (by kernel_rfl) ?_
      refine OW.nil rfl ?_
      refine QW.next ?_
      refine CW.ret ?_
      refine QW.block_ret ?_
      refine QW.then_ret ?_
      obtain rfl := Option.some.inj hF
      refine QW.ret1 rfl rfl ?_
      exact ⟨rfl, hst.keep [] rfl⟩
     ·have hF := ite_f hF hc9
      refine CW.cond_f rfl hc9 ?_
      refine CW.seq ?_
      refine CW.region ?_
      refine OW.pure 2 [(26, .bool (p1 == 104))] (by kernel_rfl) ?_
      refine OW.nil rfl ?_
      refine QW.next ?_
      rcases Bool.eq_false_or_eq_true ((p1 == 104)) with hc10 | hc10
      ·have hF := ite_t hF hc10
       refine CW.cond_t rfl hc10 ?_
       refine CW.seq ?_
       refine CW.region ?_
       refine OW.pure 1 [(28, .pointer (some ⟨b3, 6, none⟩))] (by kernel_rfl) ?_
       refine OW.ld rfl rfl rfl rfl (by kernel_rfl) (hst.blk 0 rfl rfl) ?_
       refine OW.pure 1 [(4, .int .i64 p0.Hook)] (by kernel_rfl) ?_
       refine OW.nil rfl ?_
       refine QW.next ?_
       refine CW.ret ?_
       refine QW.block_ret ?_
       refine QW.then_ret ?_
       obtain rfl := Option.some.inj hF
       refine QW.ret1 rfl rfl ?_
       exact ⟨rfl, hst.keep [] rfl⟩
      ·have hF := ite_f hF hc10
       refine CW.cond_f rfl hc10 ?_
       refine CW.seq ?_
       refine CW.region ?_
       refine OW.pure 2 [(30, .bool (p1 == 112))] (by kernel_rfl) ?_
       refine OW.nil rfl ?_
       refine QW.next ?_
       rcases Bool.eq_false_or_eq_true ((p1 == 112)) with hc11 | hc11
       ·have hF := ite_t hF hc11
        refine CW.cond_t rfl hc11 ?_
        refine CW.seq ?_
        refine CW.region ?_
        refine OW.pure 1 [(32, .pointer (some ⟨b3, 7, none⟩))] (by kernel_rfl) ?_
        refine OW.ld rfl rfl rfl rfl (by kernel_rfl) (hst.blk 0 rfl rfl) ?_
        refine OW.pure 1 [(4, .int .i64 p0.Prog)] (by kernel_rfl) ?_
        refine OW.nil rfl ?_
        refine QW.next ?_
        refine CW.ret ?_
        refine QW.block_ret ?_
        refine QW.then_ret ?_
        obtain rfl := Option.some.inj hF
        refine QW.ret1 rfl rfl ?_
        exact ⟨rfl, hst.keep [] rfl⟩
       ·have hF := ite_f hF hc11
        refine CW.cond_f rfl hc11 ?_
        refine CW.seq ?_
        refine CW.region ?_
        refine OW.pure 2 [(34, .bool (p1 == 118))] (by kernel_rfl) ?_
        refine OW.nil rfl ?_
        refine QW.next ?_
        rcases Bool.eq_false_or_eq_true ((p1 == 118)) with hc12 | hc12
        ·have hF := ite_t hF hc12
         refine CW.cond_t rfl hc12 ?_
         refine CW.seq ?_
         refine CW.region ?_
         refine OW.pure 1 [(36, .pointer (some ⟨b3, 8, none⟩))] (by kernel_rfl) ?_
         refine OW.ld rfl rfl rfl rfl (by kernel_rfl) (hst.blk 0 rfl rfl) ?_
         refine OW.pure 1 [(4, .int .i64 p0.Version)] (by kernel_rfl) ?_
         refine OW.nil rfl ?_
         refine QW.next ?_
         refine CW.ret ?_
         refine QW.block_ret ?_
         refine QW.then_ret ?_
         obtain rfl := Option.some.inj hF
         refine QW.ret1 rfl rfl ?_
         exact ⟨rfl, hst.keep [] rfl⟩
        ·have hF := ite_f hF hc12
         refine CW.cond_f rfl hc12 ?_
         refine CW.seq ?_
         refine CW.region ?_
         refine OW.pure 2 [(38, .bool (p1 == 97))] (by kernel_rfl) ?_
         refine OW.nil rfl ?_
         refine QW.next ?_
         rcases Bool.eq_false_or_eq_true ((p1 == 97)) with hc13 | hc13
         ·have hF := ite_t hF hc13
          refine CW.cond_t rfl hc13 ?_
          refine CW.seq ?_
          refine CW.region ?_
          refine OW.pure 1 [(40, .pointer (some ⟨b3, 9, none⟩))] (by kernel_rfl) ?_
          refine OW.ld rfl rfl rfl rfl (by kernel_rfl) (hst.blk 0 rfl rfl) ?_
          refine OW.pure 1 [(4, .int .i64 p0.Pc)] (by kernel_rfl) ?_
          refine OW.nil rfl ?_
          refine QW.next ?_
          refine CW.ret ?_
          refine QW.block_ret ?_
          refine QW.then_ret ?_
          obtain rfl := Option.some.inj hF
          refine QW.ret1 rfl rfl ?_
          exact ⟨rfl, hst.keep [] rfl⟩
         ·have hF := ite_f hF hc13
          refine CW.cond_f rfl hc13 ?_
          refine CW.seq ?_
          refine CW.region ?_
          refine OW.pure 2 [(42, .bool (p1 == 120))] (by kernel_rfl) ?_
          refine OW.nil rfl ?_
          refine QW.next ?_
          rcases Bool.eq_false_or_eq_true ((p1 == 120)) with hc14 | hc14
          ·have hF := ite_t hF hc14
           refine CW.cond_t rfl hc14 ?_
           refine CW.seq ?_
           refine CW.region ?_
           refine OW.pure 1 [(44, .pointer (some ⟨b3, 21, none⟩))] (by kernel_rfl) ?_
           refine OW.ld rfl rfl rfl rfl (by kernel_rfl) (hst.blk 0 rfl rfl) ?_
           refine OW.pure 1 [(4, .int .i64 p0.E)] (by kernel_rfl) ?_
           refine OW.nil rfl ?_
           refine QW.next ?_
           refine CW.ret ?_
           refine QW.block_ret ?_
           refine QW.then_ret ?_
           obtain rfl := Option.some.inj hF
           refine QW.ret1 rfl rfl ?_
           exact ⟨rfl, hst.keep [] rfl⟩
          ·have hF := ite_f hF hc14
           refine CW.cond_f rfl hc14 ?_
           refine CW.seq ?_
           refine CW.region ?_
           refine OW.pure 2 [(46, .bool (p1 == 109))] (by kernel_rfl) ?_
           refine OW.nil rfl ?_
           refine QW.next ?_
           rcases Bool.eq_false_or_eq_true ((p1 == 109)) with hc15 | hc15
           ·have hF := ite_t hF hc15
            refine CW.cond_t rfl hc15 ?_
            refine CW.seq ?_
            refine CW.region ?_
            refine OW.pure 2 [(49, .pointer (some ⟨b3, 10, none⟩))] (by kernel_rfl) ?_
            refine OW.ld rfl rfl rfl rfl (by kernel_rfl) (hst.blk 0 rfl rfl) ?_
            refine OW.pure 1 [(4, .int .i64 p0.Item.Map)] (by kernel_rfl) ?_
            refine OW.nil rfl ?_
            refine QW.next ?_
            refine CW.ret ?_
            refine QW.block_ret ?_
            refine QW.then_ret ?_
            obtain rfl := Option.some.inj hF
            refine QW.ret1 rfl rfl ?_
            exact ⟨rfl, hst.keep [] rfl⟩
           ·have hF := ite_f hF hc15
            refine CW.cond_f rfl hc15 ?_
            refine CW.seq ?_
            refine CW.region ?_
            refine OW.pure 2 [(51, .bool (p1 == 111))] (by kernel_rfl) ?_
            refine OW.nil rfl ?_
            refine QW.next ?_
            rcases Bool.eq_false_or_eq_true ((p1 == 111)) with hc16 | hc16
            ·have hF := ite_t hF hc16
             refine CW.cond_t rfl hc16 ?_
             refine CW.seq ?_
             refine CW.region ?_
             refine OW.pure 2 [(54, .pointer (some ⟨b3, 11, none⟩))] (by kernel_rfl) ?_
             refine OW.ld rfl rfl rfl rfl (by kernel_rfl) (hst.blk 0 rfl rfl) ?_
             refine OW.pure 1 [(4, .int .i64 p0.Item.Op)] (by kernel_rfl) ?_
             refine OW.nil rfl ?_
             refine QW.next ?_
             refine CW.ret ?_
             refine QW.block_ret ?_
             refine QW.then_ret ?_
             obtain rfl := Option.some.inj hF
             refine QW.ret1 rfl rfl ?_
             exact ⟨rfl, hst.keep [] rfl⟩
            ·have hF := ite_f hF hc16
             refine CW.cond_f rfl hc16 ?_
             refine CW.seq ?_
             refine CW.region ?_
             refine OW.pure 2 [(56, .bool (p1 == 121))] (by kernel_rfl) ?_
             refine OW.nil rfl ?_
             refine QW.next ?_
             rcases Bool.eq_false_or_eq_true ((p1 == 121)) with hc17 | hc17
             ·have hF := ite_t hF hc17
              refine CW.cond_t rfl hc17 ?_
              refine CW.seq ?_
              refine CW.region ?_
              refine OW.pure 2 [(59, .pointer (some ⟨b3, 14, none⟩))] (by kernel_rfl) ?_
              refine OW.ld rfl rfl rfl rfl (by kernel_rfl) (hst.blk 0 rfl rfl) ?_
              refine OW.pure 1 [(4, .int .i64 p0.Res.E)] (by kernel_rfl) ?_
              refine OW.nil rfl ?_
              refine QW.next ?_
              refine CW.ret ?_
              refine QW.block_ret ?_
              refine QW.then_ret ?_
              obtain rfl := Option.some.inj hF
              refine QW.ret1 rfl rfl ?_
              exact ⟨rfl, hst.keep [] rfl⟩
             ·have hF := ite_f hF hc17
              refine CW.cond_f rfl hc17 ?_
              refine CW.skip ?_
              refine QW.block_normal ?_
              refine QW.next ?_
              refine CW.seq ?_
              refine CW.seq ?_
              refine CW.region ?_
              refine OW.pure 2 [(62, .pointer (some ⟨b3, 15, none⟩))] (by kernel_rfl) ?_
              refine OW.ld rfl rfl rfl rfl (by kernel_rfl) (hst.blk 0 rfl rfl) ?_
              refine OW.nil rfl ?_
              refine QW.next ?_
              rcases Bool.eq_false_or_eq_true (p0.Res.Found) with hc18 | hc18
              ·have hF := ite_t hF hc18
               refine CW.cond_t rfl hc18 ?_
               refine CW.seq ?_
               refine CW.region ?_
               refine OW.pure 1 [(4, .int .i64 1)] (by kernel_rfl) ?_
               refine OW.nil rfl ?_
               refine QW.next ?_
               refine CW.ret ?_
               refine QW.then_ret ?_
               obtain rfl := Option.some.inj hF
               refine QW.ret1 rfl rfl ?_
               exact ⟨rfl, hst.keep [] rfl⟩
              ·have hF := ite_f hF hc18
               refine CW.cond_f rfl hc18 ?_
               refine CW.skip ?_
               refine QW.next ?_
               refine CW.seq ?_
               refine CW.region ?_
               refine OW.pure 1 [(4, .int .i64 0)] (by kernel_rfl) ?_
               refine OW.nil rfl ?_
               refine QW.next ?_
               refine CW.ret ?_
               obtain rfl := Option.some.inj hF
               refine QW.ret1 rfl rfl ?_
               exact ⟨rfl, hst.keep [] rfl⟩

set_option maxRecDepth 10000 in
set_option maxHeartbeats 4000000 in
theorem tappetref03_Number_ok (w : World) (fu : Nat) (p0 : Int) (r : ByteArray) (hF : tappetref03_Number fu p0 = some r)
    (hst : St w (fp []) w []) :
    Calls Tryd.prog 48 [.int .i64 p0].toArray w (fun e w' => e = .returned (.string r) ∧ St w (fp []) w' []) := by
 refine CW.start (N := 28) Tryd.func48 rfl rfl rfl ?_
 refine CW.seq ?_
 refine CW.region ?_
 refine OW.pure 1 [] (by kernel_rfl) ?_
 refine OW.nil rfl ?_
 refine QW.next ?_
 refine CW.seq ?_
 refine CW.region ?_
 refine OW.pure 3 [(3, .int .u64 (wu64 p0))] (by kernel_rfl) ?_
 refine OW.nil rfl ?_
 refine QW.next ?_
 refine CW.seq ?_
 refine CW.region ?_
 refine OW.pure 1 [(4, .string ByteArray.empty)] (by kernel_rfl) ?_
 refine OW.nil rfl ?_
 refine QW.next ?_
 refine CW.seq ?_
 refine CW.seq ?_
 refine CW.region ?_
 refine OW.pure 2 [(8, .bool (decide (p0 < 0)))] (by kernel_rfl) ?_
 refine OW.nil rfl ?_
 refine QW.next ?_
 obtain ⟨o2, ho3, hF⟩ := bind_some' hF
 refine CW.cutK (fun a w1 => Rep 28 [(0, .int .i64 p0), (3, .int .u64 o2), (4, .string ByteArray.empty)] a ∧ St w (fp []) w1 []) ?_ ?_
 ·rcases Bool.eq_false_or_eq_true (decide (p0 < 0)) with hc4 | hc4
  ·have ho3 := ite_t ho3 hc4
   refine CW.cond_t rfl hc4 ?_
   refine CW.region ?_
   refine OW.pure 3 [(3, .int .u64 (wu64 (0 - (wu64 p0))))] (by kernel_rfl) ?_
   refine OW.nil rfl ?_
   obtain rfl := Option.some.inj ho3
   exact QW.meet (fun a ha => ⟨ha.agrees (by kernel_rfl), hst.keep [] rfl⟩)
  ·have ho3 := ite_f ho3 hc4
   refine CW.cond_f rfl hc4 ?_
   refine CW.skip ?_
   obtain rfl := Option.some.inj ho3
   exact QW.meet (fun a ha => ⟨ha.agrees (by kernel_rfl), hst.keep [] rfl⟩)
 ·rintro a w1 ⟨ha, hst⟩
  refine CW.go ?_ ha
  refine CW.seq ?_
  obtain ⟨o36, ho37, hF⟩ := bind_some' hF
  refine CW.cutK (fun a w1 => Rep 28 [(0, .int .i64 p0), (4, .string o36)] a ∧ St w (fp []) w1 []) ?_ ?_
  ·refine CW.block ?_
   refine CW.loop (fun n a w1 => ∃ (s59 : Int × ByteArray), Rep 28 [(0, .int .i64 p0), (3, .int .u64 s59.1), (4, .string s59.2)] a ∧ St w (fp []) w1 [] ∧ loop tappetref03_Number_l1 n s59 = some o36) fu (fun a ha => ⟨(o2, ByteArray.empty), ha.agrees (by kernel_rfl), hst.keep [] rfl, ho37⟩) ?_
   rintro n57 a w1 ⟨s59, ha, hst, hl58⟩
   rcases n57 with _ | n57
   ·exact (loop_zero hl58).elim
   refine CW.go ?_ ha
   refine CW.block ?_
   refine CW.seq ?_
   refine CW.region ?_
   refine OW.pure 5 [(12, .int .u64 (s59.1.tmod 10)), (15, .int .u64 (wu64 ((s59.1.tmod 10) + 1)))] (by kernel_rfl) ?_
   obtain ⟨x64, hx65, hl58⟩ := bind_some' hl58
   refine OW.op (v := .string x64) rfl rfl rfl rfl (fun a ha => ssub_run rfl rfl rfl rfl (by kernel_rfl) hx65 a _ ha) ?_
   refine OW.pure 1 [(17, .string s59.2)] (by kernel_rfl) ?_
   obtain ⟨x66, hx67, hl58⟩ := bind_some' hl58
   refine OW.op (v := .string x66) rfl rfl rfl rfl (fun a ha => cat_run rfl rfl rfl (by kernel_rfl) hx67 a _ ha) ?_
   refine OW.pure 1 [(4, .string x66)] (by kernel_rfl) ?_
   refine OW.nil rfl ?_
   refine QW.next ?_
   refine CW.seq ?_
   refine CW.region ?_
   refine OW.pure 3 [(3, .int .u64 (wu64 (s59.1.tdiv 10)))] (by kernel_rfl) ?_
   refine OW.nil rfl ?_
   refine QW.next ?_
   refine CW.seq ?_
   refine CW.region ?_
   refine OW.pure 2 [(22, .bool ((wu64 (s59.1.tdiv 10)) == 0))] (by kernel_rfl) ?_
   refine OW.nil rfl ?_
   refine QW.next ?_
   rcases Bool.eq_false_or_eq_true (((wu64 (s59.1.tdiv 10)) == 0)) with hc68 | hc68
   ·have hl58 := ite_t hl58 hc68
    refine CW.cond_t rfl hc68 ?_
    refine CW.exit ?_
    refine QW.block_on rfl ?_
    refine QW.then_exit ?_
    refine QW.block_here ?_
    obtain rfl := Option.some.inj hl58
    exact QW.meet (fun a ha => ⟨ha.agrees (by kernel_rfl), hst.keep [] rfl⟩)
   ·have hl58 := ite_f hl58 hc68
    refine CW.cond_f rfl hc68 ?_
    refine CW.skip ?_
    refine QW.block_normal ?_
    exact QW.meet (fun a ha => ⟨n57, Nat.lt_succ_self _, (wu64 (s59.1.tdiv 10), x66), ha.agrees (by kernel_rfl), hst.keep [] rfl, hl58⟩)
  ·rintro a w1 ⟨ha, hst⟩
   refine CW.go ?_ ha
   refine CW.seq ?_
   refine CW.seq ?_
   refine CW.region ?_
   refine OW.pure 2 [(24, .bool (decide (p0 < 0)))] (by kernel_rfl) ?_
   refine OW.nil rfl ?_
   refine QW.next ?_
   rcases Bool.eq_false_or_eq_true (decide (p0 < 0)) with hc69 | hc69
   ·have hF := ite_t hF hc69
    refine CW.cond_t rfl hc69 ?_
    refine CW.seq ?_
    refine CW.region ?_
    refine OW.pure 1 [(25, .string o36)] (by kernel_rfl) ?_
    obtain ⟨x72, hx73, hF⟩ := bind_some' hF
    refine OW.op (v := .string x72) rfl rfl rfl rfl (fun a ha => cat_run rfl rfl rfl (by kernel_rfl) hx73 a _ ha) ?_
    refine OW.pure 1 [(2, .string x72)] (by kernel_rfl) ?_
    refine OW.nil rfl ?_
    refine QW.next ?_
    refine CW.ret ?_
    refine QW.then_ret ?_
    obtain rfl := Option.some.inj hF
    refine QW.ret1 rfl rfl ?_
    exact ⟨rfl, hst.keep [] rfl⟩
   ·have hF := ite_f hF hc69
    refine CW.cond_f rfl hc69 ?_
    refine CW.skip ?_
    refine QW.next ?_
    refine CW.seq ?_
    refine CW.region ?_
    refine OW.pure 2 [(2, .string o36)] (by kernel_rfl) ?_
    refine OW.nil rfl ?_
    refine QW.next ?_
    refine CW.ret ?_
    obtain rfl := Option.some.inj hF
    refine QW.ret1 rfl rfl ?_
    exact ⟨rfl, hst.keep [] rfl⟩

set_option maxRecDepth 10000 in
set_option maxHeartbeats 4000000 in
theorem tappetref26_Line_ok (w : World) (fu : Nat) (p0 : api_Entry) (r : ByteArray) (hF : tappetref26_Line fu p0 = some r)
    (hst : St w (fp []) w []) :
    Calls Tryd.prog 32 [.agg [.int .i64 p0.What, .int .i64 p0.Task, .int .i64 p0.From, .int .i64 p0.Cmd, .int .i64 p0.Tag, .int .i64 p0.Event, .int .i64 p0.Hook, .int .i64 p0.Prog, .int .i64 p0.Version, .int .i64 p0.Pc, .int .i64 p0.Item.Map, .int .i64 p0.Item.Op, .int .u64 p0.Item.Key, .int .u64 p0.Item.Val, .int .i64 p0.Res.E, .bool p0.Res.Found, .int .u64 p0.Res.Val, .bool p0.Res.Out, .int .u64 p0.Res.OutKey, .int .u64 p0.Res.OutVal, .int .u64 p0.Val, .int .i64 p0.E].toArray].toArray w (fun e w' => e = .returned (.string r) ∧ St w (fp []) w' []) := by
 refine CW.start (N := 53) Tryd.func32 rfl rfl rfl ?_
 refine CW.seq ?_
 refine CW.region ?_
 refine OW.box hst rfl rfl rfl rfl [.int .i64 p0.What, .int .i64 p0.Task, .int .i64 p0.From, .int .i64 p0.Cmd, .int .i64 p0.Tag, .int .i64 p0.Event, .int .i64 p0.Hook, .int .i64 p0.Prog, .int .i64 p0.Version, .int .i64 p0.Pc, .int .i64 p0.Item.Map, .int .i64 p0.Item.Op, .int .u64 p0.Item.Key, .int .u64 p0.Item.Val, .int .i64 p0.Res.E, .bool p0.Res.Found, .int .u64 p0.Res.Val, .bool p0.Res.Out, .int .u64 p0.Res.OutKey, .int .u64 p0.Res.OutVal, .int .u64 p0.Val, .int .i64 p0.E] rfl ?_
 intro b3 w4 hst
 refine OW.pure 1 [] (by kernel_rfl) ?_
 refine OW.nil rfl ?_
 refine QW.next ?_
 refine CW.seq ?_
 refine CW.region ?_
 refine OW.pure 1 [(8, .pointer (some ⟨b3, 0, none⟩))] (by kernel_rfl) ?_
 refine OW.ld rfl rfl rfl rfl (by kernel_rfl) (hst.blk 0 rfl rfl) ?_
 obtain ⟨r9, hr10, hF⟩ := bind_some' hF
 refine OW.fn rfl rfl rfl rfl (by kernel_rfl) (tappetref26_Name_ok _ p0.What r9 hr10 (hst.part [] rfl)) ?_
 rintro e w11 ⟨rfl, hst12⟩
 refine ⟨_, rfl, ?_⟩
 have hst := hst.join (idx := []) (rest := [0]) rfl hst12
 refine OW.pure 1 [(3, .string r9)] (by kernel_rfl) ?_
 refine OW.nil rfl ?_
 refine QW.next ?_
 refine CW.seq ?_
 refine CW.region ?_
 refine OW.pure 1 [(11, .pointer (some ⟨b3, 0, none⟩))] (by kernel_rfl) ?_
 refine OW.ld rfl rfl rfl rfl (by kernel_rfl) (hst.blk 0 rfl rfl) ?_
 refine OW.pure 2 [(14, .pointer (some ⟨b3, 17, none⟩))] (by kernel_rfl) ?_
 refine OW.ld rfl rfl rfl rfl (by kernel_rfl) (hst.blk 0 rfl rfl) ?_
 obtain ⟨r17, hr18, hF⟩ := bind_some' hF
 refine OW.fn rfl rfl rfl rfl (by kernel_rfl) (tappetref26_fields_ok _ p0.What p0.Res.Out r17 hr18 (hst.part [] rfl)) ?_
 rintro e w19 ⟨rfl, hst20⟩
 refine ⟨_, rfl, ?_⟩
 have hst := hst.join (idx := []) (rest := [0]) rfl hst20
 refine OW.pure 1 [(4, .string r17)] (by kernel_rfl) ?_
 refine OW.nil rfl ?_
 refine QW.next ?_
 refine CW.seq ?_
 refine CW.seq ?_
 refine CW.region ?_
 refine OW.pure 1 [(5, .int .i64 0)] (by kernel_rfl) ?_
 refine OW.nil rfl ?_
 refine QW.next ?_
 obtain ⟨o227, ho228, hF⟩ := bind_some' hF
 refine CW.cutK (fun a w1 => Rep 53 [(3, .string o227)] a ∧ St w (fp []) w1 []) ?_ ?_
 ·refine CW.block ?_
  have hst := hst.shutP0 (enc := enc_api_Entry) (sz := 22) (he := fun _ => rfl) 0 rfl p0 rfl
  obtain ⟨u367, hr368, ho228⟩ := bind_some' ho228
  refine CW.loop (fun n a w1 => ∃ (i365 : Nat) (s364 : ByteArray), i365 + n = r17.size ∧ Rep 53 [(1, .pointer (some ⟨b3, 0, none⟩)), (3, .string s364), (4, .string r17), (5, .int .i64 (i365 : Int))] a ∧ St w (fp []) w1 [itI R_t88 [.pointer (some ⟨b3, 0, none⟩)] ([b3]) p0] ∧ forN (tappetref26_Line_l1 fu p0 r17) (fun (s364 : ByteArray) => s364) n i365 s364 = some o227) r17.size (fun a ha => ⟨0, r9, Nat.zero_add _, ha.agrees (by kernel_rfl), hst.keep [0] rfl, ho228⟩) ?_
  rintro n362 a w1 ⟨i365, s364, hi366, ha, hst, hl363⟩
  refine CW.go ?_ ha
  refine CW.seq ?_
  refine CW.seq ?_
  refine CW.region ?_
  refine OW.pure 4 [(20, .bool (decide ((i365 : Int) < (r17.size : Int))))] (by kernel_rfl) ?_
  refine OW.nil rfl ?_
  refine QW.next ?_
  rcases Bool.eq_false_or_eq_true (decide ((i365 : Int) < (r17.size : Int))) with hc369 | hc369
  ·rcases n362 with _ | n362
   ·exact (cnt0 hi366 hc369).elim
   refine CW.cond_t rfl hc369 ?_
   refine CW.skip ?_
   refine QW.next ?_
   refine CW.seq ?_
   refine CW.block ?_
   refine CW.seq ?_
   have hst := hst.openQ0 0 rfl
   refine CW.plan (by kernel_rfl) ?_
   intro w378 hch379
   have hst := hst.same hch379
   refine OA.ldN (i := 0) (cs := [.int .i64 p0.What, .int .i64 p0.Task, .int .i64 p0.From, .int .i64 p0.Cmd, .int .i64 p0.Tag, .int .i64 p0.Event, .int .i64 p0.Hook, .int .i64 p0.Prog, .int .i64 p0.Version, .int .i64 p0.Pc, .int .i64 p0.Item.Map, .int .i64 p0.Item.Op, .int .u64 p0.Item.Key, .int .u64 p0.Item.Val, .int .i64 p0.Res.E, .bool p0.Res.Found, .int .u64 p0.Res.Val, .bool p0.Res.Out, .int .u64 p0.Res.OutKey, .int .u64 p0.Res.OutVal, .int .u64 p0.Val, .int .i64 p0.E]) rfl (by kernel_rfl) rfl rfl rfl (by kernel_rfl) (by kernel_rfl) (hst.blkN 0 rfl 0 22) ?_
   refine OA.pure [1, 2] [(25, .string r17), (26, .int .i64 (i365 : Int))] (by kernel_rfl) ?_
   obtain ⟨c380, hx381, hl363⟩ := bind_some' hl363
   refine OA.val (i := 3) (v := .int .u8 c380) rfl (by kernel_rfl) rfl rfl rfl rfl (fun a w ha => sidx_run rfl rfl rfl (by kernel_rfl) hx381 a w ha) ?_
   refine OA.act (i := 4) [] (by kernel_rfl) rfl rfl (by kernel_rfl) (by kernel_rfl) ?_
   obtain ⟨r382, hr383, hl363⟩ := bind_some' hl363
   refine OW.fn rfl rfl rfl rfl (by kernel_rfl) (tappetref26_unsigned_ok _ p0 c380 r382 hr383 (hst.part [] rfl)) ?_
   rintro e w384 ⟨rfl, hst385⟩
   refine ⟨_, rfl, ?_⟩
   have hst := hst.join (idx := []) (rest := [0]) rfl hst385
   refine OA.next trivial ?_
   refine OA.pure [5, 6, 7] [(29, .int .u64 r382.1), (30, .bool r382.2)] (by kernel_rfl) ?_
   refine OA.act (i := 8) [] (by kernel_rfl) rfl rfl (by kernel_rfl) (by kernel_rfl) ?_
   refine OW.pure 1 [(6, .int .u64 r382.1)] (by kernel_rfl) ?_
   refine OA.next trivial ?_
   refine OA.act (i := 9) [] (by kernel_rfl) rfl rfl (by kernel_rfl) (by kernel_rfl) ?_
   refine OW.pure 1 [(7, .bool r382.2)] (by kernel_rfl) ?_
   refine OA.next trivial ?_
   refine OA.fin (by kernel_rfl) (by kernel_rfl) ?_
   refine QW.next ?_
   refine CW.seq ?_
   refine CW.region ?_
   refine OW.pure 1 [(31, .string s364)] (by kernel_rfl) ?_
   obtain ⟨x392, hx393, hl363⟩ := bind_some' hl363
   refine OW.op (v := .string x392) rfl rfl rfl rfl (fun a ha => cat_run rfl rfl rfl (by kernel_rfl) hx393 a _ ha) ?_
   refine OW.pure 4 [(33, .string r17), (34, .int .i64 (i365 : Int)), (36, .int .i64 (w64 ((i365 : Int) + 1)))] (by kernel_rfl) ?_
   obtain ⟨x394, hx395, hl363⟩ := bind_some' hl363
   refine OW.op (v := .string x394) rfl rfl rfl rfl (fun a ha => ssub_run rfl rfl rfl rfl (by kernel_rfl) hx395 a _ ha) ?_
   obtain ⟨x396, hx397, hl363⟩ := bind_some' hl363
   refine OW.op (v := .string x396) rfl rfl rfl rfl (fun a ha => cat_run rfl rfl rfl (by kernel_rfl) hx397 a _ ha) ?_
   refine OW.pure 1 [(3, .string x396)] (by kernel_rfl) ?_
   refine OW.nil rfl ?_
   refine QW.next ?_
   refine CW.seq ?_
   refine CW.region ?_
   refine OW.pure 1 [(39, .bool r382.2)] (by kernel_rfl) ?_
   refine OW.nil rfl ?_
   refine QW.next ?_
   rcases Bool.eq_false_or_eq_true (r382.2) with hc398 | hc398
   ·have hl363 := ite_t hl363 hc398
    refine CW.cond_t rfl hc398 ?_
    refine CW.region ?_
    refine OW.pure 2 [(40, .string x396), (41, .int .u64 r382.1)] (by kernel_rfl) ?_
    obtain ⟨r405, hr406, hl363⟩ := bind_some' hl363
    refine OW.fn rfl rfl rfl rfl (by kernel_rfl) (tappetref26_digits_ok _ fu r382.1 r405 hr406 (hst.part [] rfl)) ?_
    rintro e w407 ⟨rfl, hst408⟩
    refine ⟨_, rfl, ?_⟩
    have hst := hst.join (idx := []) (rest := [0]) rfl hst408
    obtain ⟨x409, hx410, hl363⟩ := bind_some' hl363
    refine OW.op (v := .string x409) rfl rfl rfl rfl (fun a ha => cat_run rfl rfl rfl (by kernel_rfl) hx410 a _ ha) ?_
    refine OW.pure 1 [(3, .string x409)] (by kernel_rfl) ?_
    refine OW.nil rfl ?_
    refine QW.block_normal ?_
    refine QW.next ?_
    refine CW.region ?_
    refine OW.pure 3 [(5, .int .i64 (w64 ((i365 : Int) + 1)))] (by kernel_rfl) ?_
    refine OW.nil rfl ?_
    have hst := hst.shutP0 (enc := enc_api_Entry) (sz := 22) (he := fun _ => rfl) 0 rfl p0 rfl
    refine QW.say 5 rfl (congrArg (Value.int .i64) (w64_cnt hc369 (room_sz hr368))) ?_
    exact QW.meet (fun a ha => ⟨n362, Nat.lt_succ_self _, i365 + 1, x409, cnt_next hi366, ha.agrees (by kernel_rfl), hst.keep [0] rfl, hl363⟩)
   ·have hl363 := ite_f hl363 hc398
    refine CW.cond_f rfl hc398 ?_
    refine CW.plan (by kernel_rfl) ?_
    intro w423 hch424
    have hst := hst.same hch424
    refine OA.pure [0] [(44, .string x396)] (by kernel_rfl) ?_
    refine OA.ldN (i := 1) (cs := [.int .i64 p0.What, .int .i64 p0.Task, .int .i64 p0.From, .int .i64 p0.Cmd, .int .i64 p0.Tag, .int .i64 p0.Event, .int .i64 p0.Hook, .int .i64 p0.Prog, .int .i64 p0.Version, .int .i64 p0.Pc, .int .i64 p0.Item.Map, .int .i64 p0.Item.Op, .int .u64 p0.Item.Key, .int .u64 p0.Item.Val, .int .i64 p0.Res.E, .bool p0.Res.Found, .int .u64 p0.Res.Val, .bool p0.Res.Out, .int .u64 p0.Res.OutKey, .int .u64 p0.Res.OutVal, .int .u64 p0.Val, .int .i64 p0.E]) rfl (by kernel_rfl) rfl rfl rfl (by kernel_rfl) (by kernel_rfl) (hst.blkN 0 rfl 0 22) ?_
    refine OA.pure [2, 3] [(46, .string r17), (47, .int .i64 (i365 : Int))] (by kernel_rfl) ?_
    refine OA.val (i := 4) (v := .int .u8 c380) rfl (by kernel_rfl) rfl rfl rfl rfl (fun a w ha => sidx_run rfl rfl rfl (by kernel_rfl) hx381 a w ha) ?_
    refine OA.act (i := 5) [] (by kernel_rfl) rfl rfl (by kernel_rfl) (by kernel_rfl) ?_
    obtain ⟨r425, hr426, hl363⟩ := bind_some' hl363
    refine OW.fn rfl rfl rfl rfl (by kernel_rfl) (tappetref26_signed_ok _ p0 c380 r425 hr426 (hst.part [] rfl)) ?_
    rintro e w427 ⟨rfl, hst428⟩
    refine ⟨_, rfl, ?_⟩
    have hst := hst.join (idx := []) (rest := [0]) rfl hst428
    refine OA.next trivial ?_
    refine OA.act (i := 6) [] (by kernel_rfl) rfl rfl (by kernel_rfl) (by kernel_rfl) ?_
    obtain ⟨r429, hr430, hl363⟩ := bind_some' hl363
    refine OW.fn rfl rfl rfl rfl (by kernel_rfl) (tappetref03_Number_ok _ fu r425 r429 hr430 (hst.part [] rfl)) ?_
    rintro e w431 ⟨rfl, hst432⟩
    refine ⟨_, rfl, ?_⟩
    have hst := hst.join (idx := []) (rest := [0]) rfl hst432
    refine OA.next trivial ?_
    obtain ⟨x433, hx434, hl363⟩ := bind_some' hl363
    refine OA.val (i := 7) (v := .string x433) rfl (by kernel_rfl) rfl rfl rfl rfl (fun a w ha => cat_run rfl rfl rfl (by kernel_rfl) hx434 a w ha) ?_
    refine OA.act (i := 8) [] (by kernel_rfl) rfl rfl (by kernel_rfl) (by kernel_rfl) ?_
    refine OW.pure 1 [(3, .string x433)] (by kernel_rfl) ?_
    refine OA.next trivial ?_
    refine OA.fin (by kernel_rfl) (by kernel_rfl) ?_
    refine QW.block_normal ?_
    refine QW.next ?_
    refine CW.region ?_
    refine OW.pure 3 [(5, .int .i64 (w64 ((i365 : Int) + 1)))] (by kernel_rfl) ?_
    refine OW.nil rfl ?_
    have hst := hst.shutP0 (enc := enc_api_Entry) (sz := 22) (he := fun _ => rfl) 0 rfl p0 rfl
    refine QW.say 5 rfl (congrArg (Value.int .i64) (w64_cnt hc369 (room_sz hr368))) ?_
    exact QW.meet (fun a ha => ⟨n362, Nat.lt_succ_self _, i365 + 1, x433, cnt_next hi366, ha.agrees (by kernel_rfl), hst.keep [0] rfl, hl363⟩)
  ·rcases n362 with _ | n362
   ·refine CW.cond_f rfl hc369 ?_
    refine CW.exit ?_
    refine QW.then_exit ?_
    refine QW.then_exit ?_
    refine QW.block_here ?_
    obtain rfl := Option.some.inj hl363
    exact QW.meet (fun a ha => ⟨ha.agrees (by kernel_rfl), hst.keep [] rfl⟩)
   ·exact (cnt1 hi366 hc369).elim
 ·rintro a w1 ⟨ha, hst⟩
  refine CW.go ?_ ha
  refine CW.seq ?_
  refine CW.region ?_
  refine OW.pure 2 [(2, .string o227)] (by kernel_rfl) ?_
  refine OW.nil rfl ?_
  refine QW.next ?_
  refine CW.ret ?_
  obtain rfl := Option.some.inj hF
  refine QW.ret1 rfl rfl ?_
  exact ⟨rfl, hst.keep [] rfl⟩

set_option maxRecDepth 10000 in
set_option maxHeartbeats 4000000 in
theorem tappetref26_Read_ok (w : World) (fu : Nat) (p0 : ByteArray) (r : api_Entry × Bool) (hF : tappetref26_Read fu p0 = some r)
    (hst : St w (fp []) w []) :
    Calls Tryd.prog 22 [.string p0].toArray w (fun e w' => e = .returned (.tuple #[.agg [.int .i64 r.1.What, .int .i64 r.1.Task, .int .i64 r.1.From, .int .i64 r.1.Cmd, .int .i64 r.1.Tag, .int .i64 r.1.Event, .int .i64 r.1.Hook, .int .i64 r.1.Prog, .int .i64 r.1.Version, .int .i64 r.1.Pc, .int .i64 r.1.Item.Map, .int .i64 r.1.Item.Op, .int .u64 r.1.Item.Key, .int .u64 r.1.Item.Val, .int .i64 r.1.Res.E, .bool r.1.Res.Found, .int .u64 r.1.Res.Val, .bool r.1.Res.Out, .int .u64 r.1.Res.OutKey, .int .u64 r.1.Res.OutVal, .int .u64 r.1.Val, .int .i64 r.1.E].toArray, .bool r.2]) ∧ St w (fp []) w' []) := by
 refine CW.start (N := 102) Tryd.func22 rfl rfl rfl ?_
 refine CW.seq ?_
 refine CW.region ?_
 refine OW.alloc hst rfl rfl rfl [.int .i64 0, .int .i64 0, .int .i64 0, .int .i64 0, .int .i64 0, .int .i64 0, .int .i64 0, .int .i64 0, .int .i64 0, .int .i64 0, .int .i64 0, .int .i64 0, .int .u64 0, .int .u64 0, .int .i64 0, .bool false, .int .u64 0, .bool false, .int .u64 0, .int .u64 0, .int .u64 0, .int .i64 0] (by kernel_rfl) ?_
 intro b3 w4 hst
 refine OW.pure 1 [] (by kernel_rfl) ?_
 refine OW.nil rfl ?_
 refine QW.next ?_
 refine CW.seq ?_
 refine CW.region ?_
 refine OW.pure 1 [(4, .slice none 0 0)] (by kernel_rfl) ?_
 refine OW.nil rfl ?_
 refine QW.next ?_
 refine CW.seq ?_
 refine CW.region ?_
 refine OW.pure 1 [(5, .int .i64 0)] (by kernel_rfl) ?_
 refine OW.nil rfl ?_
 refine QW.next ?_
 refine CW.seq ?_
 refine CW.seq ?_
 refine CW.region ?_
 refine OW.pure 1 [(6, .int .i64 0)] (by kernel_rfl) ?_
 refine OW.nil rfl ?_
 refine QW.next ?_
 obtain ⟨o120, ho121, hF⟩ := bind_some' hF
 refine CW.cutK (fun a w1 => ∃ (v119 : Value), Rep 102 [(0, .string p0), (2, .pointer (some ⟨b3, 0, none⟩)), (4, v119)] a ∧ St w (fp []) w1 [itI R_t88 [.pointer (some ⟨b3, 0, none⟩)] ([b3]) (api_Entry.mk 0 0 0 0 0 0 0 0 0 0 (api_Item.mk 0 0 0 0) (api_Res.mk 0 false 0 false 0 0) 0 0), rowI v119 9 encText 1 o120]) ?_ ?_
 ·refine CW.block ?_
  have hst := hst.shutP0 (enc := enc_api_Entry) (sz := 22) (he := fun _ => rfl) 0 rfl (api_Entry.mk 0 0 0 0 0 0 0 0 0 0 (api_Item.mk 0 0 0 0) (api_Res.mk 0 false 0 false 0 0) 0 0) rfl
  have hst := hst.nilRow ByteArray 9 encText 1
  refine CW.loop (fun n a w1 => ∃ (s198 : (List ByteArray) × Int × Int) (v199 : Value), Rep 102 [(0, .string p0), (2, .pointer (some ⟨b3, 0, none⟩)), (4, v199), (5, .int .i64 s198.2.1), (6, .int .i64 s198.2.2)] a ∧ St w (fp []) w1 [itI R_t88 [.pointer (some ⟨b3, 0, none⟩)] ([b3]) (api_Entry.mk 0 0 0 0 0 0 0 0 0 0 (api_Item.mk 0 0 0 0) (api_Res.mk 0 false 0 false 0 0) 0 0), rowI v199 9 encText 1 s198.1] ∧ loop (tappetref26_Read_l1 p0) n s198 = some o120) fu (fun a ha => ⟨(([] : List ByteArray), 0, 0), (.slice none 0 0), ha.agrees (by kernel_rfl), hst.keep [0, 1] rfl, ho121⟩) ?_
  rintro n196 a w1 ⟨s198, v199, ha, hst, hl197⟩
  rcases n196 with _ | n196
  ·exact (loop_zero hl197).elim
  refine CW.go ?_ ha
  obtain ⟨l200, a201, c202, rfl⟩ := hst.len 1 rfl
  refine CW.seq ?_
  refine CW.seq ?_
  refine CW.region ?_
  refine OW.pure 4 [(16, .bool (decide (s198.2.2 ≤ (p0.size : Int))))] (by kernel_rfl) ?_
  refine OW.nil rfl ?_
  refine QW.next ?_
  rcases Bool.eq_false_or_eq_true (decide (s198.2.2 ≤ (p0.size : Int))) with hc203 | hc203
  ·have hl197 := ite_t hl197 hc203
   refine CW.cond_t rfl hc203 ?_
   refine CW.skip ?_
   refine QW.next ?_
   refine CW.seq ?_
   refine CW.block ?_
   refine CW.seq ?_
   obtain ⟨o207, ho208, hl197⟩ := bind_some' hl197
   refine CW.cutK (fun a w1 => Rep 102 [(0, .string p0), (2, .pointer (some ⟨b3, 0, none⟩)), (4, .slice a201 (s198.1).length c202), (5, .int .i64 s198.2.1), (6, .int .i64 s198.2.2), (28, .bool o207)] a ∧ St w (fp []) w1 [itI R_t88 [.pointer (some ⟨b3, 0, none⟩)] ([b3]) (api_Entry.mk 0 0 0 0 0 0 0 0 0 0 (api_Item.mk 0 0 0 0) (api_Res.mk 0 false 0 false 0 0) 0 0), rowI (.slice a201 (s198.1).length c202) 9 encText 1 s198.1]) ?_ ?_
   ·refine CW.region ?_
    refine OW.pure 5 [(23, .bool (s198.2.2 == (p0.size : Int)))] (by kernel_rfl) ?_
    refine OW.split 23 rfl (fun hc209 => ?_) (fun hc209 => ?_)
    ·have ho208 := ite_t ho208 hc209
     refine OW.pure 5 [(28, .bool true)] (by kernel_rfl) ?_
     refine OW.nil rfl ?_
     obtain rfl := Option.some.inj ho208
     exact QW.meet (fun a ha => ⟨ha.agrees (by kernel_rfl), hst.keep [0, 1] rfl⟩)
    ·have ho208 := ite_f ho208 hc209
     refine OW.pure 2 [(24, .string p0), (25, .int .i64 s198.2.2)] (by kernel_rfl) ?_
     obtain ⟨c210, hx211, ho208⟩ := bind_some' ho208
     refine OW.op (v := .int .u8 c210) rfl rfl rfl rfl (fun a ha => sidx_run rfl rfl rfl (by kernel_rfl) hx211 a _ ha) ?_
     refine OW.pure 2 [(28, .bool (c210 == 32))] (by kernel_rfl) ?_
     refine OW.nil rfl ?_
     obtain rfl := Option.some.inj ho208
     exact QW.meet (fun a ha => ⟨ha.agrees (by kernel_rfl), hst.keep [0, 1] rfl⟩)
   ·rintro a w1 ⟨ha, hst⟩
    refine CW.go ?_ ha
    rcases Bool.eq_false_or_eq_true (o207) with hc212 | hc212
    ·have hl197 := ite_t hl197 hc212
     refine CW.cond_t rfl hc212 ?_
     refine CW.seq ?_
     refine CW.region ?_
     refine OW.pure 4 [(29, .slice a201 (s198.1).length c202), (30, .string p0), (31, .int .i64 s198.2.1), (32, .int .i64 s198.2.2)] (by kernel_rfl) ?_
     obtain ⟨x224, hx225, hl197⟩ := bind_some' hl197
     refine OW.op (v := .string x224) rfl rfl rfl rfl (fun a ha => ssub_run rfl rfl rfl rfl (by kernel_rfl) hx225 a _ ha) ?_
     refine OW.row (α := ByteArray) (e := 9) (enc := encText) (sz := 1) hst rfl rfl rfl [x224] rfl (fun _ => rfl) rfl rfl (fun _ => by kernel_rfl) ?_
     intro g226 w227 hst
     obtain ⟨u228, hr229, hl197⟩ := bind_some' hl197
     refine OW.app hst 1 rfl (fun _ => rfl) (fun _ => rfl) rfl rfl rfl rfl rfl rfl (by kernel_rfl) el9 (hst.rd 2 rfl (fun _ => rfl) [] rfl (hst.len 2 rfl).1) (room_le hr229) ?_
     intro v230 w231 hst
     obtain ⟨l232, a233, c234, rfl⟩ := hst.len 1 rfl
     refine OW.pure 1 [(4, .slice a233 ((s198.1 ++ [x224])).length c234)] (by kernel_rfl) ?_
     refine OW.nil rfl ?_
     refine QW.next ?_
     refine CW.region ?_
     refine OW.pure 3 [(5, .int .i64 (w64 (s198.2.2 + 1)))] (by kernel_rfl) ?_
     refine OW.nil rfl ?_
     refine QW.block_normal ?_
     refine QW.next ?_
     refine CW.region ?_
     refine OW.pure 3 [(6, .int .i64 (w64 (s198.2.2 + 1)))] (by kernel_rfl) ?_
     refine OW.nil rfl ?_
     exact QW.meet (fun a ha => ⟨n196, Nat.lt_succ_self _, ((s198.1 ++ [x224]), w64 (s198.2.2 + 1), w64 (s198.2.2 + 1)), (.slice a233 ((s198.1 ++ [x224])).length c234), ha.agrees (by kernel_rfl), hst.keep [0, 1] rfl, hl197⟩)
    ·have hl197 := ite_f hl197 hc212
     refine CW.cond_f rfl hc212 ?_
     refine CW.skip ?_
     refine QW.block_normal ?_
     refine QW.next ?_
     refine CW.region ?_
     refine OW.pure 3 [(6, .int .i64 (w64 (s198.2.2 + 1)))] (by kernel_rfl) ?_
     refine OW.nil rfl ?_
     exact QW.meet (fun a ha => ⟨n196, Nat.lt_succ_self _, (s198.1, s198.2.1, w64 (s198.2.2 + 1)), (.slice a201 (s198.1).length c202), ha.agrees (by kernel_rfl), hst.keep [0, 1] rfl, hl197⟩)
  ·have hl197 := ite_f hl197 hc203
   refine CW.cond_f rfl hc203 ?_
   refine CW.exit ?_
   refine QW.then_exit ?_
   refine QW.then_exit ?_
   refine QW.block_here ?_
   obtain rfl := Option.some.inj hl197
   exact QW.meet (fun a ha => ⟨(.slice a201 (s198.1).length c202), ha.agrees (by kernel_rfl), hst.keep [0, 1] rfl⟩)
 ·rintro a w1 ⟨v119, ha, hst⟩
  refine CW.go ?_ ha
  obtain ⟨l238, a239, c240, rfl⟩ := hst.len 1 rfl
  refine CW.seq ?_
  refine CW.seq ?_
  refine CW.region ?_
  refine OW.pure 1 [(7, .int .i64 1)] (by kernel_rfl) ?_
  refine OW.nil rfl ?_
  refine QW.next ?_
  obtain ⟨o1804, ho1805, hF⟩ := bind_some' hF
  refine CW.cutK (fun a w1 => ∃ (t1806 : Unit), o1804 = .inl t1806 ∧ Rep 102 [(2, .pointer (some ⟨b3, 0, none⟩))] a ∧ St w (fp []) w1 [itI R_t88 [.pointer (some ⟨b3, 0, none⟩)] ([b3]) (api_Entry.mk 0 0 0 0 0 0 0 0 0 0 (api_Item.mk 0 0 0 0) (api_Res.mk 0 false 0 false 0 0) 0 0)]) ?_ ?_
  ·refine CW.block ?_
   refine CW.loop (fun n a w1 => ∃ (s2849 : Int), Rep 102 [(0, .string p0), (2, .pointer (some ⟨b3, 0, none⟩)), (4, .slice a239 (o120).length c240), (7, .int .i64 s2849)] a ∧ St w (fp []) w1 [itI R_t88 [.pointer (some ⟨b3, 0, none⟩)] ([b3]) (api_Entry.mk 0 0 0 0 0 0 0 0 0 0 (api_Item.mk 0 0 0 0) (api_Res.mk 0 false 0 false 0 0) 0 0), rowI (.slice a239 (o120).length c240) 9 encText 1 o120] ∧ loop (tappetref26_Read_l2 fu p0 o120) n s2849 = some o1804) fu (fun a ha => ⟨1, ha.agrees (by kernel_rfl), hst.keep [0, 1] rfl, ho1805⟩) ?_
   rintro n2847 a w1 ⟨s2849, ha, hst, hl2848⟩
   rcases n2847 with _ | n2847
   ·exact (loop_zero hl2848).elim
   refine CW.go ?_ ha
   refine CW.seq ?_
   refine CW.seq ?_
   refine CW.region ?_
   refine OW.pure 2 [(39, .bool (decide (s2849 ≤ 17)))] (by kernel_rfl) ?_
   refine OW.nil rfl ?_
   refine QW.next ?_
   rcases Bool.eq_false_or_eq_true (decide (s2849 ≤ 17)) with hc2850 | hc2850
   ·have hl2848 := ite_t hl2848 hc2850
    refine CW.cond_t rfl hc2850 ?_
    refine CW.skip ?_
    refine QW.next ?_
    refine CW.seq ?_
    refine CW.block ?_
    refine CW.seq ?_
    refine CW.seq ?_
    refine CW.plan (by kernel_rfl) ?_
    intro w2863 hch2864
    have hst := hst.same hch2864
    refine OA.pure [0, 2] [(42, .int .i64 s2849), (44, .slice a239 (o120).length c240)] (by kernel_rfl) ?_
    obtain ⟨x2865, hx2866, hl2848⟩ := bind_some' hl2848
    obtain ⟨g2868, o2869, c2870, hv2867⟩ := hst.rowv 1 rfl hx2866
    refine OA.idx (i := 3) 9 1 rfl (by kernel_rfl) rfl rfl rfl hv2867 rfl (idx_some hx2866).1 (idx_some hx2866).2.1 (by kernel_rfl) (by kernel_rfl) ?_
    refine OA.ld (i := 4) rfl (by kernel_rfl) rfl rfl rfl (by kernel_rfl) (hst.rowc 1 rfl (fun _ => rfl) hx2866 hv2867 0 _ rfl) ?_
    refine OA.act (i := 1) [4] (by kernel_rfl) rfl rfl (by kernel_rfl) (by kernel_rfl) ?_
    obtain ⟨r2871, hr2872, hl2848⟩ := bind_some' hl2848
    refine OW.fn rfl rfl rfl rfl (by kernel_rfl) (tappetref26_Name_ok _ s2849 r2871 hr2872 (hst.part [] rfl)) ?_
    rintro e w2873 ⟨rfl, hst2874⟩
    refine ⟨_, rfl, ?_⟩
    have hst := hst.join (idx := []) (rest := [0, 1]) rfl hst2874
    refine OA.next ⟨(hst.rowc 1 rfl (fun _ => rfl) hx2866 hv2867 0 _ rfl), trivial⟩ ?_
    refine OA.pure [5] [(47, .bool (sNe r2871 x2865))] (by kernel_rfl) ?_
    refine OA.fin (by kernel_rfl) (by kernel_rfl) ?_
    refine QW.next ?_
    rcases Bool.eq_false_or_eq_true (sNe r2871 x2865) with hc2875 | hc2875
    ·have hl2848 := ite_t hl2848 hc2875
     refine CW.cond_t rfl hc2875 ?_
     refine CW.exit ?_
     refine QW.then_exit ?_
     refine QW.block_here ?_
     refine QW.next ?_
     refine CW.region ?_
     refine OW.pure 3 [(7, .int .i64 (w64 (s2849 + 1)))] (by kernel_rfl) ?_
     refine OW.nil rfl ?_
     exact QW.meet (fun a ha => ⟨n2847, Nat.lt_succ_self _, (w64 (s2849 + 1)), ha.agrees (by kernel_rfl), hst.keep [0, 1] rfl, hl2848⟩)
    ·have hl2848 := ite_f hl2848 hc2875
     refine CW.cond_f rfl hc2875 ?_
     refine CW.skip ?_
     refine QW.next ?_
     refine CW.seq ?_
     refine CW.region ?_
     refine OW.pure 2 [(49, .agg [.int .i64 s2849, .int .i64 0, .int .i64 0, .int .i64 0, .int .i64 0, .int .i64 0, .int .i64 0, .int .i64 0, .int .i64 0, .int .i64 0, .int .i64 0, .int .i64 0, .int .u64 0, .int .u64 0, .int .i64 0, .bool false, .int .u64 0, .bool false, .int .u64 0, .int .u64 0, .int .u64 0, .int .i64 0].toArray)] (by kernel_rfl) ?_
     refine OW.alloc hst rfl rfl rfl [.int .i64 0, .int .i64 0, .int .i64 0, .int .i64 0, .int .i64 0, .int .i64 0, .int .i64 0, .int .i64 0, .int .i64 0, .int .i64 0, .int .i64 0, .int .i64 0, .int .u64 0, .int .u64 0, .int .i64 0, .bool false, .int .u64 0, .bool false, .int .u64 0, .int .u64 0, .int .u64 0, .int .i64 0] (by kernel_rfl) ?_
     intro b2879 w2880 hst
     refine OW.stB hst 2 rfl rfl rfl rfl rfl (by kernel_rfl) rfl rfl [.int .i64 s2849, .int .i64 0, .int .i64 0, .int .i64 0, .int .i64 0, .int .i64 0, .int .i64 0, .int .i64 0, .int .i64 0, .int .i64 0, .int .i64 0, .int .i64 0, .int .u64 0, .int .u64 0, .int .i64 0, .bool false, .int .u64 0, .bool false, .int .u64 0, .int .u64 0, .int .u64 0, .int .i64 0] rfl ?_
     intro w2881 hst
     refine OW.nil rfl ?_
     refine QW.next ?_
     refine CW.seq ?_
     refine CW.region ?_
     refine OW.pure 1 [(50, .int .i64 s2849)] (by kernel_rfl) ?_
     obtain ⟨r2886, hr2887, hl2848⟩ := bind_some' hl2848
     refine OW.fn rfl rfl rfl rfl (by kernel_rfl) (tappetref26_fields_ok _ s2849 false r2886 hr2887 (hst.part [] rfl)) ?_
     rintro e w2888 ⟨rfl, hst2889⟩
     refine ⟨_, rfl, ?_⟩
     have hst := hst.join (idx := []) (rest := [0, 1, 2]) rfl hst2889
     refine OW.pure 1 [(9, .string r2886)] (by kernel_rfl) ?_
     refine OW.nil rfl ?_
     refine QW.next ?_
     refine CW.seq ?_
     refine CW.seq ?_
     obtain ⟨o2895, ho2896, hl2848⟩ := bind_some' hl2848
     refine CW.cutK (fun a w1 => Rep 102 [(0, .string p0), (2, .pointer (some ⟨b3, 0, none⟩)), (4, .slice a239 (o120).length c240), (7, .int .i64 s2849), (8, .pointer (some ⟨b2879, 0, none⟩)), (9, .string r2886), (61, .bool o2895)] a ∧ St w (fp []) w1 [itI R_t88 [.pointer (some ⟨b3, 0, none⟩)] ([b3]) (api_Entry.mk 0 0 0 0 0 0 0 0 0 0 (api_Item.mk 0 0 0 0) (api_Res.mk 0 false 0 false 0 0) 0 0), rowI (.slice a239 (o120).length c240) 9 encText 1 o120, itI R_t88 [.pointer (some ⟨b2879, 0, none⟩)] ([b2879]) (api_Entry.mk s2849 0 0 0 0 0 0 0 0 0 (api_Item.mk 0 0 0 0) (api_Res.mk 0 false 0 false 0 0) 0 0)]) ?_ ?_
     ·refine CW.region ?_
      refine OW.pure 7 [(58, .bool (((o120).length : Int) == (w64 ((r2886.size : Int) + 3))))] (by kernel_rfl) ?_
      refine OW.split 58 rfl (fun hc2897 => ?_) (fun hc2897 => ?_)
      ·have ho2896 := ite_t ho2896 hc2897
       refine OW.pure 1 [(59, .string r2886)] (by kernel_rfl) ?_
       obtain ⟨r2898, hr2899, ho2896⟩ := bind_some' ho2896
       refine OW.fn rfl rfl rfl rfl (by kernel_rfl) (tappetref26_has_ok _ r2886 121 r2898 hr2899 (hst.part [] rfl)) ?_
       rintro e w2900 ⟨rfl, hst2901⟩
       refine ⟨_, rfl, ?_⟩
       have hst := hst.join (idx := []) (rest := [0, 1, 2]) rfl hst2901
       refine OW.pure 1 [(61, .bool r2898)] (by kernel_rfl) ?_
       refine OW.nil rfl ?_
       have hst := hst.shutP0 (enc := enc_api_Entry) (sz := 22) (he := fun _ => rfl) 2 rfl (api_Entry.mk s2849 0 0 0 0 0 0 0 0 0 (api_Item.mk 0 0 0 0) (api_Res.mk 0 false 0 false 0 0) 0 0) rfl
       obtain rfl := Option.some.inj ho2896
       exact QW.meet (fun a ha => ⟨ha.agrees (by kernel_rfl), hst.keep [0, 1, 2] rfl⟩)
      ·have ho2896 := ite_f ho2896 hc2897
       refine OW.pure 3 [(61, .bool false)] (by kernel_rfl) ?_
       refine OW.nil rfl ?_
       have hst := hst.shutP0 (enc := enc_api_Entry) (sz := 22) (he := fun _ => rfl) 2 rfl (api_Entry.mk s2849 0 0 0 0 0 0 0 0 0 (api_Item.mk 0 0 0 0) (api_Res.mk 0 false 0 false 0 0) 0 0) rfl
       obtain rfl := Option.some.inj ho2896
       exact QW.meet (fun a ha => ⟨ha.agrees (by kernel_rfl), hst.keep [0, 1, 2] rfl⟩)
     ·rintro a w1 ⟨ha, hst⟩
      refine CW.go ?_ ha
      obtain ⟨o2913, ho2914, hl2848⟩ := bind_some' hl2848
      refine CW.cutK (fun a w1 => Rep 102 [(0, .string p0), (2, .pointer (some ⟨b3, 0, none⟩)), (4, .slice a239 (o120).length c240), (8, .pointer (some ⟨b2879, 0, none⟩)), (9, .string o2913.2)] a ∧ St w (fp []) w1 [itI R_t88 [.pointer (some ⟨b3, 0, none⟩)] ([b3]) (api_Entry.mk 0 0 0 0 0 0 0 0 0 0 (api_Item.mk 0 0 0 0) (api_Res.mk 0 false 0 false 0 0) 0 0), rowI (.slice a239 (o120).length c240) 9 encText 1 o120, itI R_t88 [.pointer (some ⟨b2879, 0, none⟩)] ([b2879]) o2913.1]) ?_ ?_
      ·rcases Bool.eq_false_or_eq_true (o2895) with hc2915 | hc2915
       ·have ho2914 := ite_t ho2914 hc2915
        refine CW.cond_t rfl hc2915 ?_
        refine CW.seq ?_
        have hst := hst.openQ0 2 rfl
        refine CW.region ?_
        refine OW.pure 2 [(63, .pointer (some ⟨b2879, 17, none⟩))] (by kernel_rfl) ?_
        refine OW.stB hst 2 rfl rfl rfl rfl rfl (by kernel_rfl) rfl rfl [.int .i64 (api_Entry.mk s2849 0 0 0 0 0 0 0 0 0 (api_Item.mk 0 0 0 0) (api_Res.mk 0 false 0 false 0 0) 0 0).What, .int .i64 (api_Entry.mk s2849 0 0 0 0 0 0 0 0 0 (api_Item.mk 0 0 0 0) (api_Res.mk 0 false 0 false 0 0) 0 0).Task, .int .i64 (api_Entry.mk s2849 0 0 0 0 0 0 0 0 0 (api_Item.mk 0 0 0 0) (api_Res.mk 0 false 0 false 0 0) 0 0).From, .int .i64 (api_Entry.mk s2849 0 0 0 0 0 0 0 0 0 (api_Item.mk 0 0 0 0) (api_Res.mk 0 false 0 false 0 0) 0 0).Cmd, .int .i64 (api_Entry.mk s2849 0 0 0 0 0 0 0 0 0 (api_Item.mk 0 0 0 0) (api_Res.mk 0 false 0 false 0 0) 0 0).Tag, .int .i64 (api_Entry.mk s2849 0 0 0 0 0 0 0 0 0 (api_Item.mk 0 0 0 0) (api_Res.mk 0 false 0 false 0 0) 0 0).Event, .int .i64 (api_Entry.mk s2849 0 0 0 0 0 0 0 0 0 (api_Item.mk 0 0 0 0) (api_Res.mk 0 false 0 false 0 0) 0 0).Hook, .int .i64 (api_Entry.mk s2849 0 0 0 0 0 0 0 0 0 (api_Item.mk 0 0 0 0) (api_Res.mk 0 false 0 false 0 0) 0 0).Prog, .int .i64 (api_Entry.mk s2849 0 0 0 0 0 0 0 0 0 (api_Item.mk 0 0 0 0) (api_Res.mk 0 false 0 false 0 0) 0 0).Version, .int .i64 (api_Entry.mk s2849 0 0 0 0 0 0 0 0 0 (api_Item.mk 0 0 0 0) (api_Res.mk 0 false 0 false 0 0) 0 0).Pc, .int .i64 (api_Entry.mk s2849 0 0 0 0 0 0 0 0 0 (api_Item.mk 0 0 0 0) (api_Res.mk 0 false 0 false 0 0) 0 0).Item.Map, .int .i64 (api_Entry.mk s2849 0 0 0 0 0 0 0 0 0 (api_Item.mk 0 0 0 0) (api_Res.mk 0 false 0 false 0 0) 0 0).Item.Op, .int .u64 (api_Entry.mk s2849 0 0 0 0 0 0 0 0 0 (api_Item.mk 0 0 0 0) (api_Res.mk 0 false 0 false 0 0) 0 0).Item.Key, .int .u64 (api_Entry.mk s2849 0 0 0 0 0 0 0 0 0 (api_Item.mk 0 0 0 0) (api_Res.mk 0 false 0 false 0 0) 0 0).Item.Val, .int .i64 (api_Entry.mk s2849 0 0 0 0 0 0 0 0 0 (api_Item.mk 0 0 0 0) (api_Res.mk 0 false 0 false 0 0) 0 0).Res.E, .bool (api_Entry.mk s2849 0 0 0 0 0 0 0 0 0 (api_Item.mk 0 0 0 0) (api_Res.mk 0 false 0 false 0 0) 0 0).Res.Found, .int .u64 (api_Entry.mk s2849 0 0 0 0 0 0 0 0 0 (api_Item.mk 0 0 0 0) (api_Res.mk 0 false 0 false 0 0) 0 0).Res.Val, .bool true, .int .u64 (api_Entry.mk s2849 0 0 0 0 0 0 0 0 0 (api_Item.mk 0 0 0 0) (api_Res.mk 0 false 0 false 0 0) 0 0).Res.OutKey, .int .u64 (api_Entry.mk s2849 0 0 0 0 0 0 0 0 0 (api_Item.mk 0 0 0 0) (api_Res.mk 0 false 0 false 0 0) 0 0).Res.OutVal, .int .u64 (api_Entry.mk s2849 0 0 0 0 0 0 0 0 0 (api_Item.mk 0 0 0 0) (api_Res.mk 0 false 0 false 0 0) 0 0).Val, .int .i64 (api_Entry.mk s2849 0 0 0 0 0 0 0 0 0 (api_Item.mk 0 0 0 0) (api_Res.mk 0 false 0 false 0 0) 0 0).E] rfl ?_
        intro w2917 hst
        refine OW.nil rfl ?_
        refine QW.next ?_
        refine CW.region ?_
        refine OW.pure 1 [(64, .int .i64 s2849)] (by kernel_rfl) ?_
        obtain ⟨r2922, hr2923, ho2914⟩ := bind_some' ho2914
        refine OW.fn rfl rfl rfl rfl (by kernel_rfl) (tappetref26_fields_ok _ s2849 true r2922 hr2923 (hst.part [] rfl)) ?_
        rintro e w2924 ⟨rfl, hst2925⟩
        refine ⟨_, rfl, ?_⟩
        have hst := hst.join (idx := []) (rest := [0, 1, 2]) rfl hst2925
        refine OW.pure 1 [(9, .string r2922)] (by kernel_rfl) ?_
        refine OW.nil rfl ?_
        have hst := hst.shutP0 (enc := enc_api_Entry) (sz := 22) (he := fun _ => rfl) 2 rfl (api_Entry.mk (api_Entry.mk s2849 0 0 0 0 0 0 0 0 0 (api_Item.mk 0 0 0 0) (api_Res.mk 0 false 0 false 0 0) 0 0).What (api_Entry.mk s2849 0 0 0 0 0 0 0 0 0 (api_Item.mk 0 0 0 0) (api_Res.mk 0 false 0 false 0 0) 0 0).Task (api_Entry.mk s2849 0 0 0 0 0 0 0 0 0 (api_Item.mk 0 0 0 0) (api_Res.mk 0 false 0 false 0 0) 0 0).From (api_Entry.mk s2849 0 0 0 0 0 0 0 0 0 (api_Item.mk 0 0 0 0) (api_Res.mk 0 false 0 false 0 0) 0 0).Cmd (api_Entry.mk s2849 0 0 0 0 0 0 0 0 0 (api_Item.mk 0 0 0 0) (api_Res.mk 0 false 0 false 0 0) 0 0).Tag (api_Entry.mk s2849 0 0 0 0 0 0 0 0 0 (api_Item.mk 0 0 0 0) (api_Res.mk 0 false 0 false 0 0) 0 0).Event (api_Entry.mk s2849 0 0 0 0 0 0 0 0 0 (api_Item.mk 0 0 0 0) (api_Res.mk 0 false 0 false 0 0) 0 0).Hook (api_Entry.mk s2849 0 0 0 0 0 0 0 0 0 (api_Item.mk 0 0 0 0) (api_Res.mk 0 false 0 false 0 0) 0 0).Prog (api_Entry.mk s2849 0 0 0 0 0 0 0 0 0 (api_Item.mk 0 0 0 0) (api_Res.mk 0 false 0 false 0 0) 0 0).Version (api_Entry.mk s2849 0 0 0 0 0 0 0 0 0 (api_Item.mk 0 0 0 0) (api_Res.mk 0 false 0 false 0 0) 0 0).Pc (api_Entry.mk s2849 0 0 0 0 0 0 0 0 0 (api_Item.mk 0 0 0 0) (api_Res.mk 0 false 0 false 0 0) 0 0).Item (api_Res.mk (api_Entry.mk s2849 0 0 0 0 0 0 0 0 0 (api_Item.mk 0 0 0 0) (api_Res.mk 0 false 0 false 0 0) 0 0).Res.E (api_Entry.mk s2849 0 0 0 0 0 0 0 0 0 (api_Item.mk 0 0 0 0) (api_Res.mk 0 false 0 false 0 0) 0 0).Res.Found (api_Entry.mk s2849 0 0 0 0 0 0 0 0 0 (api_Item.mk 0 0 0 0) (api_Res.mk 0 false 0 false 0 0) 0 0).Res.Val true (api_Entry.mk s2849 0 0 0 0 0 0 0 0 0 (api_Item.mk 0 0 0 0) (api_Res.mk 0 false 0 false 0 0) 0 0).Res.OutKey (api_Entry.mk s2849 0 0 0 0 0 0 0 0 0 (api_Item.mk 0 0 0 0) (api_Res.mk 0 false 0 false 0 0) 0 0).Res.OutVal) (api_Entry.mk s2849 0 0 0 0 0 0 0 0 0 (api_Item.mk 0 0 0 0) (api_Res.mk 0 false 0 false 0 0) 0 0).Val (api_Entry.mk s2849 0 0 0 0 0 0 0 0 0 (api_Item.mk 0 0 0 0) (api_Res.mk 0 false 0 false 0 0) 0 0).E) rfl
        obtain rfl := Option.some.inj ho2914
        exact QW.meet (fun a ha => ⟨ha.agrees (by kernel_rfl), hst.keep [0, 1, 2] rfl⟩)
       ·have ho2914 := ite_f ho2914 hc2915
        refine CW.cond_f rfl hc2915 ?_
        refine CW.skip ?_
        obtain rfl := Option.some.inj ho2914
        exact QW.meet (fun a ha => ⟨ha.agrees (by kernel_rfl), hst.keep [0, 1, 2] rfl⟩)
      ·rintro a w1 ⟨ha, hst⟩
       refine CW.go ?_ ha
       refine CW.seq ?_
       refine CW.seq ?_
       refine CW.region ?_
       refine OW.pure 6 [(71, .bool (((o120).length : Int) != (w64 ((o2913.2.size : Int) + 1))))] (by kernel_rfl) ?_
       refine OW.nil rfl ?_
       refine QW.next ?_
       rcases Bool.eq_false_or_eq_true ((((o120).length : Int) != (w64 ((o2913.2.size : Int) + 1)))) with hc2926 | hc2926
       ·have hl2848 := ite_t hl2848 hc2926
        refine CW.cond_t rfl hc2926 ?_
        refine CW.seq ?_
        have hst := hst.openQ0 2 rfl
        have hst := hst.openQ0 0 rfl
        refine CW.region ?_
        refine OW.ldN (cs := [.int .i64 o2913.1.What, .int .i64 o2913.1.Task, .int .i64 o2913.1.From, .int .i64 o2913.1.Cmd, .int .i64 o2913.1.Tag, .int .i64 o2913.1.Event, .int .i64 o2913.1.Hook, .int .i64 o2913.1.Prog, .int .i64 o2913.1.Version, .int .i64 o2913.1.Pc, .int .i64 o2913.1.Item.Map, .int .i64 o2913.1.Item.Op, .int .u64 o2913.1.Item.Key, .int .u64 o2913.1.Item.Val, .int .i64 o2913.1.Res.E, .bool o2913.1.Res.Found, .int .u64 o2913.1.Res.Val, .bool o2913.1.Res.Out, .int .u64 o2913.1.Res.OutKey, .int .u64 o2913.1.Res.OutVal, .int .u64 o2913.1.Val, .int .i64 o2913.1.E]) rfl rfl rfl rfl (by kernel_rfl) (by kernel_rfl) (hst.blkN 2 rfl 0 22) ?_
        refine OW.stB hst 0 rfl rfl rfl rfl rfl (by kernel_rfl) rfl rfl [.int .i64 o2913.1.What, .int .i64 o2913.1.Task, .int .i64 o2913.1.From, .int .i64 o2913.1.Cmd, .int .i64 o2913.1.Tag, .int .i64 o2913.1.Event, .int .i64 o2913.1.Hook, .int .i64 o2913.1.Prog, .int .i64 o2913.1.Version, .int .i64 o2913.1.Pc, .int .i64 o2913.1.Item.Map, .int .i64 o2913.1.Item.Op, .int .u64 o2913.1.Item.Key, .int .u64 o2913.1.Item.Val, .int .i64 o2913.1.Res.E, .bool o2913.1.Res.Found, .int .u64 o2913.1.Res.Val, .bool o2913.1.Res.Out, .int .u64 o2913.1.Res.OutKey, .int .u64 o2913.1.Res.OutVal, .int .u64 o2913.1.Val, .int .i64 o2913.1.E] rfl ?_
        intro w2928 hst
        refine OW.pure 1 [(3, .bool false)] (by kernel_rfl) ?_
        refine OW.nil rfl ?_
        refine QW.next ?_
        refine CW.ret ?_
        refine QW.then_ret ?_
        refine QW.block_ret ?_
        refine QW.then_ret ?_
        refine QW.then_ret ?_
        refine QW.block_ret ?_
        refine QW.then_ret ?_
        obtain rfl := Option.some.inj hl2848
        obtain rfl := Option.some.inj hF
        refine QW.ret_ct rfl rfl (run_loadN (cs := [.int .i64 o2913.1.What, .int .i64 o2913.1.Task, .int .i64 o2913.1.From, .int .i64 o2913.1.Cmd, .int .i64 o2913.1.Tag, .int .i64 o2913.1.Event, .int .i64 o2913.1.Hook, .int .i64 o2913.1.Prog, .int .i64 o2913.1.Version, .int .i64 o2913.1.Pc, .int .i64 o2913.1.Item.Map, .int .i64 o2913.1.Item.Op, .int .u64 o2913.1.Item.Key, .int .u64 o2913.1.Item.Val, .int .i64 o2913.1.Res.E, .bool o2913.1.Res.Found, .int .u64 o2913.1.Res.Val, .bool o2913.1.Res.Out, .int .u64 o2913.1.Res.OutKey, .int .u64 o2913.1.Res.OutVal, .int .u64 o2913.1.Val, .int .i64 o2913.1.E]) (by kernel_rfl) (by kernel_rfl) (hst.blkN 0 rfl 0 22)) rfl ?_
        exact ⟨rfl, hst.keep [] rfl⟩
       ·have hl2848 := ite_f hl2848 hc2926
        refine CW.cond_f rfl hc2926 ?_
        refine CW.skip ?_
        refine QW.next ?_
        refine CW.seq ?_
        refine CW.seq ?_
        refine CW.region ?_
        refine OW.pure 1 [(10, .int .i64 0)] (by kernel_rfl) ?_
        refine OW.nil rfl ?_
        refine QW.next ?_
        obtain ⟨o3141, ho3142, hl2848⟩ := bind_some' hl2848
        refine CW.cutK (fun a w1 => ∃ (t3143 : api_Entry), o3141 = .inl t3143 ∧ Rep 102 [(0, .string p0), (2, .pointer (some ⟨b3, 0, none⟩)), (8, .pointer (some ⟨b2879, 0, none⟩))] a ∧ St w (fp []) w1 [itI R_t88 [.pointer (some ⟨b3, 0, none⟩)] ([b3]) (api_Entry.mk 0 0 0 0 0 0 0 0 0 0 (api_Item.mk 0 0 0 0) (api_Res.mk 0 false 0 false 0 0) 0 0), itI R_t88 [.pointer (some ⟨b2879, 0, none⟩)] ([b2879]) t3143]) ?_ ?_
        ·refine CW.block ?_
         obtain ⟨u3286, hr3287, ho3142⟩ := bind_some' ho3142
         refine CW.loop (fun n a w1 => ∃ (i3284 : Nat) (s3283 : api_Entry), i3284 + n = o2913.2.size ∧ Rep 102 [(0, .string p0), (2, .pointer (some ⟨b3, 0, none⟩)), (4, .slice a239 (o120).length c240), (8, .pointer (some ⟨b2879, 0, none⟩)), (9, .string o2913.2), (10, .int .i64 (i3284 : Int))] a ∧ St w (fp []) w1 [itI R_t88 [.pointer (some ⟨b3, 0, none⟩)] ([b3]) (api_Entry.mk 0 0 0 0 0 0 0 0 0 0 (api_Item.mk 0 0 0 0) (api_Res.mk 0 false 0 false 0 0) 0 0), rowI (.slice a239 (o120).length c240) 9 encText 1 o120, itI R_t88 [.pointer (some ⟨b2879, 0, none⟩)] ([b2879]) s3283] ∧ forN (tappetref26_Read_l3 fu o120 o2913) (fun (s3283 : api_Entry) => (.inl s3283)) n i3284 s3283 = some o3141) o2913.2.size (fun a ha => ⟨0, o2913.1, Nat.zero_add _, ha.agrees (by kernel_rfl), hst.keep [0, 1, 2] rfl, ho3142⟩) ?_
         rintro n3281 a w1 ⟨i3284, s3283, hi3285, ha, hst, hl3282⟩
         refine CW.go ?_ ha
         refine CW.seq ?_
         refine CW.seq ?_
         refine CW.region ?_
         refine OW.pure 4 [(76, .bool (decide ((i3284 : Int) < (o2913.2.size : Int))))] (by kernel_rfl) ?_
         refine OW.nil rfl ?_
         refine QW.next ?_
         rcases Bool.eq_false_or_eq_true (decide ((i3284 : Int) < (o2913.2.size : Int))) with hc3288 | hc3288
         ·rcases n3281 with _ | n3281
          ·exact (cnt0 hi3285 hc3288).elim
          refine CW.cond_t rfl hc3288 ?_
          refine CW.skip ?_
          refine QW.next ?_
          refine CW.seq ?_
          refine CW.block ?_
          refine CW.seq ?_
          have hst := hst.openQ0 2 rfl
          obtain ⟨o3325, ho3326, hl3282⟩ := bind_some' hl3282
          refine CW.cutK (fun a w1 => ∃ (b3323 : Nat) (S3324 : List Nat), Rep 102 [(0, .string p0), (2, .pointer (some ⟨b3, 0, none⟩)), (4, .slice a239 (o120).length c240), (8, .pointer (some ⟨b2879, 0, none⟩)), (9, .string o2913.2), (10, .int .i64 (i3284 : Int)), (11, .pointer (some ⟨b3323, 0, none⟩)), (12, .bool o3325.2)] a ∧ St w (fp []) w1 [itI R_t88 [.pointer (some ⟨b3, 0, none⟩)] ([b3]) (api_Entry.mk 0 0 0 0 0 0 0 0 0 0 (api_Item.mk 0 0 0 0) (api_Res.mk 0 false 0 false 0 0) 0 0), rowI (.slice a239 (o120).length c240) 9 encText 1 o120, itI R_t88 [.pointer (some ⟨b2879, 0, none⟩)] ([b2879]) s3283, itI R_t88 [.pointer (some ⟨b3323, 0, none⟩)] S3324 o3325.1]) ?_ ?_
          ·refine CW.plan (by kernel_rfl) ?_
           intro w3327 hch3328
           have hst := hst.same hch3328
           refine OA.ldN (i := 0) (cs := [.int .i64 s3283.What, .int .i64 s3283.Task, .int .i64 s3283.From, .int .i64 s3283.Cmd, .int .i64 s3283.Tag, .int .i64 s3283.Event, .int .i64 s3283.Hook, .int .i64 s3283.Prog, .int .i64 s3283.Version, .int .i64 s3283.Pc, .int .i64 s3283.Item.Map, .int .i64 s3283.Item.Op, .int .u64 s3283.Item.Key, .int .u64 s3283.Item.Val, .int .i64 s3283.Res.E, .bool s3283.Res.Found, .int .u64 s3283.Res.Val, .bool s3283.Res.Out, .int .u64 s3283.Res.OutKey, .int .u64 s3283.Res.OutVal, .int .u64 s3283.Val, .int .i64 s3283.E]) rfl (by kernel_rfl) rfl rfl rfl (by kernel_rfl) (by kernel_rfl) (hst.blkN 2 rfl 0 22) ?_
           refine OA.pure [1, 2] [(81, .string o2913.2), (82, .int .i64 (i3284 : Int))] (by kernel_rfl) ?_
           obtain ⟨c3329, hx3330, ho3326⟩ := bind_some' ho3326
           refine OA.val (i := 3) (v := .int .u8 c3329) rfl (by kernel_rfl) rfl rfl rfl rfl (fun a w ha => sidx_run rfl rfl rfl (by kernel_rfl) hx3330 a w ha) ?_
           refine OA.pure [4, 5, 6] [(84, .slice a239 (o120).length c240), (86, .int .i64 (w64 ((i3284 : Int) + 1)))] (by kernel_rfl) ?_
           obtain ⟨x3331, hx3332, ho3326⟩ := bind_some' ho3326
           obtain ⟨g3334, o3335, c3336, hv3333⟩ := hst.rowv 1 rfl hx3332
           refine OA.idx (i := 7) 9 1 rfl (by kernel_rfl) rfl rfl rfl hv3333 rfl (idx_some hx3332).1 (idx_some hx3332).2.1 (by kernel_rfl) (by kernel_rfl) ?_
           refine OA.ld (i := 8) rfl (by kernel_rfl) rfl rfl rfl (by kernel_rfl) (hst.rowc 1 rfl (fun _ => rfl) hx3332 hv3333 0 _ rfl) ?_
           refine OA.acts [9, 13] 9 (by kernel_rfl) (by kernel_rfl) (by kernel_rfl) (alts_cons ?_ (alts_cons ?_ alts_nil))
           ·refine Alt.of (i := 9) [] rfl rfl (by kernel_rfl) (by kernel_rfl) ?_
            obtain ⟨r3337, hr3338, ho3326⟩ := bind_some' ho3326
            refine OW.fn rfl rfl rfl rfl (by kernel_rfl) (tappetref26_set_ok _ fu s3283 c3329 x3331 r3337 hr3338 (hst.part [] rfl)) ?_
            rintro e w3339 ⟨rfl, hst3340⟩
            refine ⟨_, rfl, ?_⟩
            have hst := hst.join (idx := []) (rest := [0, 1, 2]) rfl hst3340
            refine OA.next trivial ?_
            refine OA.pure [10, 11, 12] [(90, .agg [.int .i64 r3337.1.What, .int .i64 r3337.1.Task, .int .i64 r3337.1.From, .int .i64 r3337.1.Cmd, .int .i64 r3337.1.Tag, .int .i64 r3337.1.Event, .int .i64 r3337.1.Hook, .int .i64 r3337.1.Prog, .int .i64 r3337.1.Version, .int .i64 r3337.1.Pc, .int .i64 r3337.1.Item.Map, .int .i64 r3337.1.Item.Op, .int .u64 r3337.1.Item.Key, .int .u64 r3337.1.Item.Val, .int .i64 r3337.1.Res.E, .bool r3337.1.Res.Found, .int .u64 r3337.1.Res.Val, .bool r3337.1.Res.Out, .int .u64 r3337.1.Res.OutKey, .int .u64 r3337.1.Res.OutVal, .int .u64 r3337.1.Val, .int .i64 r3337.1.E].toArray), (91, .bool r3337.2)] (by kernel_rfl) ?_
            refine OA.act (i := 13) [] (by kernel_rfl) rfl rfl (by kernel_rfl) (by kernel_rfl) ?_
            refine OW.alloc hst rfl rfl rfl [.int .i64 0, .int .i64 0, .int .i64 0, .int .i64 0, .int .i64 0, .int .i64 0, .int .i64 0, .int .i64 0, .int .i64 0, .int .i64 0, .int .i64 0, .int .i64 0, .int .u64 0, .int .u64 0, .int .i64 0, .bool false, .int .u64 0, .bool false, .int .u64 0, .int .u64 0, .int .u64 0, .int .i64 0] (by kernel_rfl) ?_
            intro b3341 w3342 hst
            refine OA.next trivial ?_
            refine OA.act (i := 14) [] (by kernel_rfl) rfl rfl (by kernel_rfl) (by kernel_rfl) ?_
            refine OW.stB hst 3 rfl rfl rfl rfl rfl (by kernel_rfl) rfl rfl [.int .i64 r3337.1.What, .int .i64 r3337.1.Task, .int .i64 r3337.1.From, .int .i64 r3337.1.Cmd, .int .i64 r3337.1.Tag, .int .i64 r3337.1.Event, .int .i64 r3337.1.Hook, .int .i64 r3337.1.Prog, .int .i64 r3337.1.Version, .int .i64 r3337.1.Pc, .int .i64 r3337.1.Item.Map, .int .i64 r3337.1.Item.Op, .int .u64 r3337.1.Item.Key, .int .u64 r3337.1.Item.Val, .int .i64 r3337.1.Res.E, .bool r3337.1.Res.Found, .int .u64 r3337.1.Res.Val, .bool r3337.1.Res.Out, .int .u64 r3337.1.Res.OutKey, .int .u64 r3337.1.Res.OutVal, .int .u64 r3337.1.Val, .int .i64 r3337.1.E] rfl ?_
            intro w3343 hst
            refine OA.next trivial ?_
            refine OA.act (i := 15) [] (by kernel_rfl) rfl rfl (by kernel_rfl) (by kernel_rfl) ?_
            refine OW.pure 1 [(12, .bool r3337.2)] (by kernel_rfl) ?_
            refine OA.next trivial ?_
            refine OA.fin (by kernel_rfl) (by kernel_rfl) ?_
            have hst := hst.shutP0 (enc := enc_api_Entry) (sz := 22) (he := fun _ => rfl) 2 rfl s3283 rfl
            have hst := hst.shutP0 (enc := enc_api_Entry) (sz := 22) (he := fun _ => rfl) 3 rfl r3337.1 rfl
            obtain rfl := Option.some.inj ho3326
            exact QW.meet (fun a ha => ⟨b3341, ([b3341]), ha.agrees (by kernel_rfl), hst.keep [0, 1, 2, 3] rfl⟩)
           ·refine Alt.of (i := 13) [8, 0] rfl rfl (by kernel_rfl) (by kernel_rfl) ?_
            refine OW.alloc hst rfl rfl rfl [.int .i64 0, .int .i64 0, .int .i64 0, .int .i64 0, .int .i64 0, .int .i64 0, .int .i64 0, .int .i64 0, .int .i64 0, .int .i64 0, .int .i64 0, .int .i64 0, .int .u64 0, .int .u64 0, .int .i64 0, .bool false, .int .u64 0, .bool false, .int .u64 0, .int .u64 0, .int .u64 0, .int .i64 0] (by kernel_rfl) ?_
            intro b3344 w3345 hst
            refine OA.next ⟨(hst.rowc 1 rfl (fun _ => rfl) hx3332 hv3333 0 _ rfl), (hst.blkN 2 rfl 0 22), trivial⟩ ?_
            refine OA.act (i := 9) [] (by kernel_rfl) rfl rfl (by kernel_rfl) (by kernel_rfl) ?_
            obtain ⟨r3346, hr3347, ho3326⟩ := bind_some' ho3326
            refine OW.fn rfl rfl rfl rfl (by kernel_rfl) (tappetref26_set_ok _ fu s3283 c3329 x3331 r3346 hr3347 (hst.part [] rfl)) ?_
            rintro e w3348 ⟨rfl, hst3349⟩
            refine ⟨_, rfl, ?_⟩
            have hst := hst.join (idx := []) (rest := [0, 1, 2, 3]) rfl hst3349
            refine OA.next trivial ?_
            refine OA.pure [10, 11, 12] [(90, .agg [.int .i64 r3346.1.What, .int .i64 r3346.1.Task, .int .i64 r3346.1.From, .int .i64 r3346.1.Cmd, .int .i64 r3346.1.Tag, .int .i64 r3346.1.Event, .int .i64 r3346.1.Hook, .int .i64 r3346.1.Prog, .int .i64 r3346.1.Version, .int .i64 r3346.1.Pc, .int .i64 r3346.1.Item.Map, .int .i64 r3346.1.Item.Op, .int .u64 r3346.1.Item.Key, .int .u64 r3346.1.Item.Val, .int .i64 r3346.1.Res.E, .bool r3346.1.Res.Found, .int .u64 r3346.1.Res.Val, .bool r3346.1.Res.Out, .int .u64 r3346.1.Res.OutKey, .int .u64 r3346.1.Res.OutVal, .int .u64 r3346.1.Val, .int .i64 r3346.1.E].toArray), (91, .bool r3346.2)] (by kernel_rfl) ?_
            refine OA.act (i := 14) [] (by kernel_rfl) rfl rfl (by kernel_rfl) (by kernel_rfl) ?_
            refine OW.stB hst 3 rfl rfl rfl rfl rfl (by kernel_rfl) rfl rfl [.int .i64 r3346.1.What, .int .i64 r3346.1.Task, .int .i64 r3346.1.From, .int .i64 r3346.1.Cmd, .int .i64 r3346.1.Tag, .int .i64 r3346.1.Event, .int .i64 r3346.1.Hook, .int .i64 r3346.1.Prog, .int .i64 r3346.1.Version, .int .i64 r3346.1.Pc, .int .i64 r3346.1.Item.Map, .int .i64 r3346.1.Item.Op, .int .u64 r3346.1.Item.Key, .int .u64 r3346.1.Item.Val, .int .i64 r3346.1.Res.E, .bool r3346.1.Res.Found, .int .u64 r3346.1.Res.Val, .bool r3346.1.Res.Out, .int .u64 r3346.1.Res.OutKey, .int .u64 r3346.1.Res.OutVal, .int .u64 r3346.1.Val, .int .i64 r3346.1.E] rfl ?_
            intro w3350 hst
            refine OA.next trivial ?_
            refine OA.act (i := 15) [] (by kernel_rfl) rfl rfl (by kernel_rfl) (by kernel_rfl) ?_
            refine OW.pure 1 [(12, .bool r3346.2)] (by kernel_rfl) ?_
            refine OA.next trivial ?_
            refine OA.fin (by kernel_rfl) (by kernel_rfl) ?_
            have hst := hst.shutP0 (enc := enc_api_Entry) (sz := 22) (he := fun _ => rfl) 2 rfl s3283 rfl
            have hst := hst.shutP0 (enc := enc_api_Entry) (sz := 22) (he := fun _ => rfl) 3 rfl r3346.1 rfl
            obtain rfl := Option.some.inj ho3326
            exact QW.meet (fun a ha => ⟨b3344, ([b3344]), ha.agrees (by kernel_rfl), hst.keep [0, 1, 2, 3] rfl⟩)
          ·rintro a w1 ⟨b3323, S3324, ha, hst⟩
           refine CW.go ?_ ha
           refine CW.seq ?_
           refine CW.seq ?_
           refine CW.region ?_
           refine OW.pure 2 [(93, .bool (!o3325.2))] (by kernel_rfl) ?_
           refine OW.nil rfl ?_
           refine QW.next ?_
           rcases Bool.eq_false_or_eq_true ((!o3325.2)) with hc3351 | hc3351
           ·have hl3282 := ite_t hl3282 hc3351
            refine CW.cond_t rfl hc3351 ?_
            refine CW.seq ?_
            have hst := hst.openQ0 2 rfl
            have hst := hst.openQ0 0 rfl
            refine CW.region ?_
            refine OW.ldN (cs := [.int .i64 s3283.What, .int .i64 s3283.Task, .int .i64 s3283.From, .int .i64 s3283.Cmd, .int .i64 s3283.Tag, .int .i64 s3283.Event, .int .i64 s3283.Hook, .int .i64 s3283.Prog, .int .i64 s3283.Version, .int .i64 s3283.Pc, .int .i64 s3283.Item.Map, .int .i64 s3283.Item.Op, .int .u64 s3283.Item.Key, .int .u64 s3283.Item.Val, .int .i64 s3283.Res.E, .bool s3283.Res.Found, .int .u64 s3283.Res.Val, .bool s3283.Res.Out, .int .u64 s3283.Res.OutKey, .int .u64 s3283.Res.OutVal, .int .u64 s3283.Val, .int .i64 s3283.E]) rfl rfl rfl rfl (by kernel_rfl) (by kernel_rfl) (hst.blkN 2 rfl 0 22) ?_
            refine OW.stB hst 0 rfl rfl rfl rfl rfl (by kernel_rfl) rfl rfl [.int .i64 s3283.What, .int .i64 s3283.Task, .int .i64 s3283.From, .int .i64 s3283.Cmd, .int .i64 s3283.Tag, .int .i64 s3283.Event, .int .i64 s3283.Hook, .int .i64 s3283.Prog, .int .i64 s3283.Version, .int .i64 s3283.Pc, .int .i64 s3283.Item.Map, .int .i64 s3283.Item.Op, .int .u64 s3283.Item.Key, .int .u64 s3283.Item.Val, .int .i64 s3283.Res.E, .bool s3283.Res.Found, .int .u64 s3283.Res.Val, .bool s3283.Res.Out, .int .u64 s3283.Res.OutKey, .int .u64 s3283.Res.OutVal, .int .u64 s3283.Val, .int .i64 s3283.E] rfl ?_
            intro w3353 hst
            refine OW.pure 1 [(3, .bool false)] (by kernel_rfl) ?_
            refine OW.nil rfl ?_
            refine QW.next ?_
            refine CW.ret ?_
            refine QW.then_ret ?_
            refine QW.block_ret ?_
            refine QW.then_ret ?_
            refine QW.then_ret ?_
            refine QW.block_ret ?_
            refine QW.then_ret ?_
            refine QW.block_ret ?_
            refine QW.then_ret ?_
            refine QW.then_ret ?_
            refine QW.block_ret ?_
            refine QW.then_ret ?_
            obtain rfl := Option.some.inj hl3282
            obtain rfl := Option.some.inj hl2848
            obtain rfl := Option.some.inj hF
            refine QW.ret_ct rfl rfl (run_loadN (cs := [.int .i64 s3283.What, .int .i64 s3283.Task, .int .i64 s3283.From, .int .i64 s3283.Cmd, .int .i64 s3283.Tag, .int .i64 s3283.Event, .int .i64 s3283.Hook, .int .i64 s3283.Prog, .int .i64 s3283.Version, .int .i64 s3283.Pc, .int .i64 s3283.Item.Map, .int .i64 s3283.Item.Op, .int .u64 s3283.Item.Key, .int .u64 s3283.Item.Val, .int .i64 s3283.Res.E, .bool s3283.Res.Found, .int .u64 s3283.Res.Val, .bool s3283.Res.Out, .int .u64 s3283.Res.OutKey, .int .u64 s3283.Res.OutVal, .int .u64 s3283.Val, .int .i64 s3283.E]) (by kernel_rfl) (by kernel_rfl) (hst.blkN 0 rfl 0 22)) rfl ?_
            exact ⟨rfl, hst.keep [] rfl⟩
           ·have hl3282 := ite_f hl3282 hc3351
            refine CW.cond_f rfl hc3351 ?_
            refine CW.skip ?_
            refine QW.next ?_
            have hst := hst.openQ0 3 rfl
            have hst := hst.openQ0 2 rfl
            refine CW.region ?_
            refine OW.ldN (cs := [.int .i64 o3325.1.What, .int .i64 o3325.1.Task, .int .i64 o3325.1.From, .int .i64 o3325.1.Cmd, .int .i64 o3325.1.Tag, .int .i64 o3325.1.Event, .int .i64 o3325.1.Hook, .int .i64 o3325.1.Prog, .int .i64 o3325.1.Version, .int .i64 o3325.1.Pc, .int .i64 o3325.1.Item.Map, .int .i64 o3325.1.Item.Op, .int .u64 o3325.1.Item.Key, .int .u64 o3325.1.Item.Val, .int .i64 o3325.1.Res.E, .bool o3325.1.Res.Found, .int .u64 o3325.1.Res.Val, .bool o3325.1.Res.Out, .int .u64 o3325.1.Res.OutKey, .int .u64 o3325.1.Res.OutVal, .int .u64 o3325.1.Val, .int .i64 o3325.1.E]) rfl rfl rfl rfl (by kernel_rfl) (by kernel_rfl) (hst.blkN 3 rfl 0 22) ?_
            refine OW.stB hst 2 rfl rfl rfl rfl rfl (by kernel_rfl) rfl rfl [.int .i64 o3325.1.What, .int .i64 o3325.1.Task, .int .i64 o3325.1.From, .int .i64 o3325.1.Cmd, .int .i64 o3325.1.Tag, .int .i64 o3325.1.Event, .int .i64 o3325.1.Hook, .int .i64 o3325.1.Prog, .int .i64 o3325.1.Version, .int .i64 o3325.1.Pc, .int .i64 o3325.1.Item.Map, .int .i64 o3325.1.Item.Op, .int .u64 o3325.1.Item.Key, .int .u64 o3325.1.Item.Val, .int .i64 o3325.1.Res.E, .bool o3325.1.Res.Found, .int .u64 o3325.1.Res.Val, .bool o3325.1.Res.Out, .int .u64 o3325.1.Res.OutKey, .int .u64 o3325.1.Res.OutVal, .int .u64 o3325.1.Val, .int .i64 o3325.1.E] rfl ?_
            intro w3355 hst
            refine OW.nil rfl ?_
            refine QW.block_normal ?_
            refine QW.next ?_
            refine CW.region ?_
            refine OW.pure 3 [(10, .int .i64 (w64 ((i3284 : Int) + 1)))] (by kernel_rfl) ?_
            refine OW.nil rfl ?_
            have hst := hst.shutP0 (enc := enc_api_Entry) (sz := 22) (he := fun _ => rfl) 2 rfl o3325.1 rfl
            have hst := hst.shutP0 (enc := enc_api_Entry) (sz := 22) (he := fun _ => rfl) 3 rfl o3325.1 rfl
            refine QW.say 10 rfl (congrArg (Value.int .i64) (w64_cnt hc3288 (room_sz hr3287))) ?_
            exact QW.meet (fun a ha => ⟨n3281, Nat.lt_succ_self _, i3284 + 1, o3325.1, cnt_next hi3285, ha.agrees (by kernel_rfl), hst.keep [0, 1, 2] rfl, hl3282⟩)
         ·rcases n3281 with _ | n3281
          ·refine CW.cond_f rfl hc3288 ?_
           refine CW.exit ?_
           refine QW.then_exit ?_
           refine QW.then_exit ?_
           refine QW.block_here ?_
           obtain rfl := Option.some.inj hl3282
           exact QW.meet (fun a ha => ⟨s3283, rfl, ha.agrees (by kernel_rfl), hst.keep [0, 2] rfl⟩)
          ·exact (cnt1 hi3285 hc3288).elim
        ·rintro a w1 ⟨t3143, rfl, ha, hst⟩
         refine CW.go ?_ ha
         refine CW.seq ?_
         have hst := hst.openQ0 1 rfl
         have hst := hst.openQ0 0 rfl
         refine CW.plan (by kernel_rfl) ?_
         intro w3363 hch3364
         have hst := hst.same hch3364
         refine OA.ldN (i := 0) (cs := [.int .i64 t3143.What, .int .i64 t3143.Task, .int .i64 t3143.From, .int .i64 t3143.Cmd, .int .i64 t3143.Tag, .int .i64 t3143.Event, .int .i64 t3143.Hook, .int .i64 t3143.Prog, .int .i64 t3143.Version, .int .i64 t3143.Pc, .int .i64 t3143.Item.Map, .int .i64 t3143.Item.Op, .int .u64 t3143.Item.Key, .int .u64 t3143.Item.Val, .int .i64 t3143.Res.E, .bool t3143.Res.Found, .int .u64 t3143.Res.Val, .bool t3143.Res.Out, .int .u64 t3143.Res.OutKey, .int .u64 t3143.Res.OutVal, .int .u64 t3143.Val, .int .i64 t3143.E]) rfl (by kernel_rfl) rfl rfl rfl (by kernel_rfl) (by kernel_rfl) (hst.blkN 1 rfl 0 22) ?_
         refine OA.ldN (i := 1) (cs := [.int .i64 t3143.What, .int .i64 t3143.Task, .int .i64 t3143.From, .int .i64 t3143.Cmd, .int .i64 t3143.Tag, .int .i64 t3143.Event, .int .i64 t3143.Hook, .int .i64 t3143.Prog, .int .i64 t3143.Version, .int .i64 t3143.Pc, .int .i64 t3143.Item.Map, .int .i64 t3143.Item.Op, .int .u64 t3143.Item.Key, .int .u64 t3143.Item.Val, .int .i64 t3143.Res.E, .bool t3143.Res.Found, .int .u64 t3143.Res.Val, .bool t3143.Res.Out, .int .u64 t3143.Res.OutKey, .int .u64 t3143.Res.OutVal, .int .u64 t3143.Val, .int .i64 t3143.E]) rfl (by kernel_rfl) rfl rfl rfl (by kernel_rfl) (by kernel_rfl) (hst.blkN 1 rfl 0 22) ?_
         refine OA.pure [3] [(99, .string p0)] (by kernel_rfl) ?_
         refine OA.act (i := 2) [0] (by kernel_rfl) rfl rfl (by kernel_rfl) (by kernel_rfl) ?_
         obtain ⟨r3365, hr3366, hl2848⟩ := bind_some' hl2848
         refine OW.fn rfl rfl rfl rfl (by kernel_rfl) (tappetref26_Line_ok _ fu t3143 r3365 hr3366 (hst.part [] rfl)) ?_
         rintro e w3367 ⟨rfl, hst3368⟩
         refine ⟨_, rfl, ?_⟩
         have hst := hst.join (idx := []) (rest := [0, 1]) rfl hst3368
         refine OA.next ⟨(hst.blkN 1 rfl 0 22), trivial⟩ ?_
         refine OA.pure [4] [(100, .bool (sEq r3365 p0))] (by kernel_rfl) ?_
         refine OA.act (i := 5) [] (by kernel_rfl) rfl rfl (by kernel_rfl) (by kernel_rfl) ?_
         refine OW.stB hst 0 rfl rfl rfl rfl rfl (by kernel_rfl) rfl rfl [.int .i64 t3143.What, .int .i64 t3143.Task, .int .i64 t3143.From, .int .i64 t3143.Cmd, .int .i64 t3143.Tag, .int .i64 t3143.Event, .int .i64 t3143.Hook, .int .i64 t3143.Prog, .int .i64 t3143.Version, .int .i64 t3143.Pc, .int .i64 t3143.Item.Map, .int .i64 t3143.Item.Op, .int .u64 t3143.Item.Key, .int .u64 t3143.Item.Val, .int .i64 t3143.Res.E, .bool t3143.Res.Found, .int .u64 t3143.Res.Val, .bool t3143.Res.Out, .int .u64 t3143.Res.OutKey, .int .u64 t3143.Res.OutVal, .int .u64 t3143.Val, .int .i64 t3143.E] rfl ?_
         intro w3369 hst
         refine OA.next trivial ?_
         refine OA.act (i := 6) [] (by kernel_rfl) rfl rfl (by kernel_rfl) (by kernel_rfl) ?_
         refine OW.pure 1 [(3, .bool (sEq r3365 p0))] (by kernel_rfl) ?_
         refine OA.next trivial ?_
         refine OA.fin (by kernel_rfl) (by kernel_rfl) ?_
         refine QW.next ?_
         refine CW.ret ?_
         refine QW.block_ret ?_
         refine QW.then_ret ?_
         refine QW.then_ret ?_
         refine QW.block_ret ?_
         refine QW.then_ret ?_
         obtain rfl := Option.some.inj hl2848
         obtain rfl := Option.some.inj hF
         refine QW.ret_ct rfl rfl (run_loadN (cs := [.int .i64 t3143.What, .int .i64 t3143.Task, .int .i64 t3143.From, .int .i64 t3143.Cmd, .int .i64 t3143.Tag, .int .i64 t3143.Event, .int .i64 t3143.Hook, .int .i64 t3143.Prog, .int .i64 t3143.Version, .int .i64 t3143.Pc, .int .i64 t3143.Item.Map, .int .i64 t3143.Item.Op, .int .u64 t3143.Item.Key, .int .u64 t3143.Item.Val, .int .i64 t3143.Res.E, .bool t3143.Res.Found, .int .u64 t3143.Res.Val, .bool t3143.Res.Out, .int .u64 t3143.Res.OutKey, .int .u64 t3143.Res.OutVal, .int .u64 t3143.Val, .int .i64 t3143.E]) (by kernel_rfl) (by kernel_rfl) (hst.blkN 0 rfl 0 22)) rfl ?_
         exact ⟨rfl, hst.keep [] rfl⟩
   ·have hl2848 := ite_f hl2848 hc2850
    refine CW.cond_f rfl hc2850 ?_
    refine CW.exit ?_
    refine QW.then_exit ?_
    refine QW.then_exit ?_
    refine QW.block_here ?_
    obtain rfl := Option.some.inj hl2848
    exact QW.meet (fun a ha => ⟨(), rfl, ha.agrees (by kernel_rfl), hst.keep [0] rfl⟩)
  ·rintro a w1 ⟨t1806, rfl, ha, hst⟩
   refine CW.go ?_ ha
   refine CW.seq ?_
   have hst := hst.openQ0 0 rfl
   refine CW.region ?_
   refine OW.pure 1 [(101, .agg [.int .i64 0, .int .i64 0, .int .i64 0, .int .i64 0, .int .i64 0, .int .i64 0, .int .i64 0, .int .i64 0, .int .i64 0, .int .i64 0, .int .i64 0, .int .i64 0, .int .u64 0, .int .u64 0, .int .i64 0, .bool false, .int .u64 0, .bool false, .int .u64 0, .int .u64 0, .int .u64 0, .int .i64 0].toArray)] (by kernel_rfl) ?_
   refine OW.stB hst 0 rfl rfl rfl rfl rfl (by kernel_rfl) rfl rfl [.int .i64 0, .int .i64 0, .int .i64 0, .int .i64 0, .int .i64 0, .int .i64 0, .int .i64 0, .int .i64 0, .int .i64 0, .int .i64 0, .int .i64 0, .int .i64 0, .int .u64 0, .int .u64 0, .int .i64 0, .bool false, .int .u64 0, .bool false, .int .u64 0, .int .u64 0, .int .u64 0, .int .i64 0] rfl ?_
   intro w3371 hst
   refine OW.pure 1 [(3, .bool false)] (by kernel_rfl) ?_
   refine OW.nil rfl ?_
   refine QW.next ?_
   refine CW.ret ?_
   obtain rfl := Option.some.inj hF
   refine QW.ret_ct rfl rfl (run_loadN (cs := [.int .i64 0, .int .i64 0, .int .i64 0, .int .i64 0, .int .i64 0, .int .i64 0, .int .i64 0, .int .i64 0, .int .i64 0, .int .i64 0, .int .i64 0, .int .i64 0, .int .u64 0, .int .u64 0, .int .i64 0, .bool false, .int .u64 0, .bool false, .int .u64 0, .int .u64 0, .int .u64 0, .int .i64 0]) (by kernel_rfl) (by kernel_rfl) (hst.blkN 0 rfl 0 22)) rfl ?_
   exact ⟨rfl, hst.keep [] rfl⟩

set_option maxRecDepth 10000 in
set_option maxHeartbeats 4000000 in
theorem tappetref26_Parse_ok (w : World) (fu : Nat) (p0 : ByteArray) (r : (List api_Entry) × Int × Int) (hF : tappetref26_Parse fu p0 = some r)
    (hst : St w (fp []) w []) :
    Calls Tryd.prog 10 [.string p0].toArray w (fun e w' => ∃ (x0 : Value), e = .returned (.tuple #[x0, .int .i64 r.2.1, .int .i64 r.2.2]) ∧ St w (fp []) w' [rowI x0 46 enc_api_Entry 22 r.1]) := by
 refine CW.start (N := 47) Tryd.func10 rfl rfl rfl ?_
 refine CW.seq ?_
 refine CW.region ?_
 refine OW.pure 3 [] (by kernel_rfl) ?_
 refine OW.nil rfl ?_
 refine QW.next ?_
 refine CW.seq ?_
 refine CW.region ?_
 refine OW.pure 1 [(5, .slice none 0 0)] (by kernel_rfl) ?_
 refine OW.nil rfl ?_
 refine QW.next ?_
 refine CW.seq ?_
 refine CW.region ?_
 refine OW.pure 1 [(6, .int .i64 0)] (by kernel_rfl) ?_
 refine OW.nil rfl ?_
 refine QW.next ?_
 refine CW.seq ?_
 refine CW.seq ?_
 refine CW.region ?_
 refine OW.pure 1 [(7, .int .i64 0)] (by kernel_rfl) ?_
 refine OW.nil rfl ?_
 refine QW.next ?_
 obtain ⟨o153, ho154, hF⟩ := bind_some' hF
 refine CW.cutK (fun a w1 => ∃ (t155 : (List api_Entry) × Int) (v152 : Value), o153 = .inl t155 ∧ Rep 47 [(0, .string p0), (5, v152), (6, .int .i64 t155.2)] a ∧ St w (fp []) w1 [rowI v152 46 enc_api_Entry 22 t155.1]) ?_ ?_
 ·refine CW.block ?_
  obtain ⟨u258, hr259, ho154⟩ := bind_some' ho154
  have hst := hst.nilRow api_Entry 46 enc_api_Entry 22
  refine CW.loop (fun n a w1 => ∃ (i256 : Nat) (s254 : (List api_Entry) × Int) (v255 : Value), i256 + n = p0.size ∧ Rep 47 [(0, .string p0), (5, v255), (6, .int .i64 s254.2), (7, .int .i64 (i256 : Int))] a ∧ St w (fp []) w1 [rowI v255 46 enc_api_Entry 22 s254.1] ∧ forN (tappetref26_Parse_l1 fu p0) (fun (s254 : (List api_Entry) × Int) => (.inl (s254.1, s254.2))) n i256 s254 = some o153) p0.size (fun a ha => ⟨0, (([] : List api_Entry), 0), (.slice none 0 0), Nat.zero_add _, ha.agrees (by kernel_rfl), hst.keep [0] rfl, ho154⟩) ?_
  rintro n252 a w1 ⟨i256, s254, v255, hi257, ha, hst, hl253⟩
  refine CW.go ?_ ha
  obtain ⟨l260, a261, c262, rfl⟩ := hst.len 0 rfl
  refine CW.seq ?_
  refine CW.seq ?_
  refine CW.region ?_
  refine OW.pure 4 [(13, .bool (decide ((i256 : Int) < (p0.size : Int))))] (by kernel_rfl) ?_
  refine OW.nil rfl ?_
  refine QW.next ?_
  rcases Bool.eq_false_or_eq_true (decide ((i256 : Int) < (p0.size : Int))) with hc263 | hc263
  ·rcases n252 with _ | n252
   ·exact (cnt0 hi257 hc263).elim
   refine CW.cond_t rfl hc263 ?_
   refine CW.skip ?_
   refine QW.next ?_
   refine CW.seq ?_
   refine CW.block ?_
   refine CW.seq ?_
   refine CW.seq ?_
   refine CW.region ?_
   refine OW.pure 2 [(16, .string p0), (17, .int .i64 (i256 : Int))] (by kernel_rfl) ?_
   obtain ⟨c266, hx267, hl253⟩ := bind_some' hl253
   refine OW.op (v := .int .u8 c266) rfl rfl rfl rfl (fun a ha => sidx_run rfl rfl rfl (by kernel_rfl) hx267 a _ ha) ?_
   refine OW.pure 1 [(19, .bool (c266 != 10))] (by kernel_rfl) ?_
   refine OW.nil rfl ?_
   refine QW.next ?_
   rcases Bool.eq_false_or_eq_true ((c266 != 10)) with hc268 | hc268
   ·have hl253 := ite_t hl253 hc268
    refine CW.cond_t rfl hc268 ?_
    refine CW.exit ?_
    refine QW.then_exit ?_
    refine QW.block_here ?_
    refine QW.next ?_
    refine CW.region ?_
    refine OW.pure 3 [(7, .int .i64 (w64 ((i256 : Int) + 1)))] (by kernel_rfl) ?_
    refine OW.nil rfl ?_
    refine QW.say 7 rfl (congrArg (Value.int .i64) (w64_cnt hc263 (room_sz hr259))) ?_
    exact QW.meet (fun a ha => ⟨n252, Nat.lt_succ_self _, i256 + 1, (s254.1, s254.2), (.slice a261 (s254.1).length c262), cnt_next hi257, ha.agrees (by kernel_rfl), hst.keep [0] rfl, hl253⟩)
   ·have hl253 := ite_f hl253 hc268
    refine CW.cond_f rfl hc268 ?_
    refine CW.skip ?_
    refine QW.next ?_
    refine CW.seq ?_
    refine CW.region ?_
    refine OW.pure 3 [(21, .string p0), (22, .int .i64 s254.2), (23, .int .i64 (i256 : Int))] (by kernel_rfl) ?_
    obtain ⟨x279, hx280, hl253⟩ := bind_some' hl253
    refine OW.op (v := .string x279) rfl rfl rfl rfl (fun a ha => ssub_run rfl rfl rfl rfl (by kernel_rfl) hx280 a _ ha) ?_
    obtain ⟨r281, hr282, hl253⟩ := bind_some' hl253
    refine OW.fn rfl rfl rfl rfl (by kernel_rfl) (tappetref26_Read_ok _ fu x279 r281 hr282 (hst.part [] rfl)) ?_
    rintro e w283 ⟨rfl, hst284⟩
    refine ⟨_, rfl, ?_⟩
    have hst := hst.join (idx := []) (rest := [0]) rfl hst284
    refine OW.pure 3 [(26, .agg [.int .i64 r281.1.What, .int .i64 r281.1.Task, .int .i64 r281.1.From, .int .i64 r281.1.Cmd, .int .i64 r281.1.Tag, .int .i64 r281.1.Event, .int .i64 r281.1.Hook, .int .i64 r281.1.Prog, .int .i64 r281.1.Version, .int .i64 r281.1.Pc, .int .i64 r281.1.Item.Map, .int .i64 r281.1.Item.Op, .int .u64 r281.1.Item.Key, .int .u64 r281.1.Item.Val, .int .i64 r281.1.Res.E, .bool r281.1.Res.Found, .int .u64 r281.1.Res.Val, .bool r281.1.Res.Out, .int .u64 r281.1.Res.OutKey, .int .u64 r281.1.Res.OutVal, .int .u64 r281.1.Val, .int .i64 r281.1.E].toArray), (27, .bool r281.2)] (by kernel_rfl) ?_
    refine OW.alloc hst rfl rfl rfl [.int .i64 0, .int .i64 0, .int .i64 0, .int .i64 0, .int .i64 0, .int .i64 0, .int .i64 0, .int .i64 0, .int .i64 0, .int .i64 0, .int .i64 0, .int .i64 0, .int .u64 0, .int .u64 0, .int .i64 0, .bool false, .int .u64 0, .bool false, .int .u64 0, .int .u64 0, .int .u64 0, .int .i64 0] (by kernel_rfl) ?_
    intro b285 w286 hst
    refine OW.stB hst 1 rfl rfl rfl rfl rfl (by kernel_rfl) rfl rfl [.int .i64 r281.1.What, .int .i64 r281.1.Task, .int .i64 r281.1.From, .int .i64 r281.1.Cmd, .int .i64 r281.1.Tag, .int .i64 r281.1.Event, .int .i64 r281.1.Hook, .int .i64 r281.1.Prog, .int .i64 r281.1.Version, .int .i64 r281.1.Pc, .int .i64 r281.1.Item.Map, .int .i64 r281.1.Item.Op, .int .u64 r281.1.Item.Key, .int .u64 r281.1.Item.Val, .int .i64 r281.1.Res.E, .bool r281.1.Res.Found, .int .u64 r281.1.Res.Val, .bool r281.1.Res.Out, .int .u64 r281.1.Res.OutKey, .int .u64 r281.1.Res.OutVal, .int .u64 r281.1.Val, .int .i64 r281.1.E] rfl ?_
    intro w287 hst
    refine OW.pure 1 [(9, .bool r281.2)] (by kernel_rfl) ?_
    refine OW.nil rfl ?_
    refine QW.next ?_
    refine CW.seq ?_
    refine CW.seq ?_
    refine CW.region ?_
    refine OW.pure 2 [(29, .bool (!r281.2))] (by kernel_rfl) ?_
    refine OW.nil rfl ?_
    refine QW.next ?_
    rcases Bool.eq_false_or_eq_true ((!r281.2)) with hc288 | hc288
    ·have hl253 := ite_t hl253 hc288
     refine CW.cond_t rfl hc288 ?_
     refine CW.seq ?_
     refine CW.region ?_
     refine OW.pure 6 [(2, .slice none 0 0), (3, .int .i64 (w64 (((s254.1).length : Int) + 1))), (4, .int .i64 20)] (by kernel_rfl) ?_
     refine OW.nil rfl ?_
     refine QW.next ?_
     refine CW.ret ?_
     refine QW.then_ret ?_
     refine QW.block_ret ?_
     refine QW.then_ret ?_
     refine QW.then_ret ?_
     refine QW.block_ret ?_
     refine QW.then_ret ?_
     have hst := hst.nilRow api_Entry 46 enc_api_Entry 22
     obtain rfl := Option.some.inj hl253
     obtain rfl := Option.some.inj hF
     refine QW.ret3 rfl rfl rfl rfl ?_
     exact ⟨(.slice none 0 0), rfl, hst.keep [2] rfl⟩
    ·have hl253 := ite_f hl253 hc288
     refine CW.cond_f rfl hc288 ?_
     refine CW.skip ?_
     refine QW.next ?_
     refine CW.seq ?_
     refine CW.region ?_
     refine OW.pure 1 [(33, .slice a261 (s254.1).length c262)] (by kernel_rfl) ?_
     refine OW.ldN (cs := [.int .i64 r281.1.What, .int .i64 r281.1.Task, .int .i64 r281.1.From, .int .i64 r281.1.Cmd, .int .i64 r281.1.Tag, .int .i64 r281.1.Event, .int .i64 r281.1.Hook, .int .i64 r281.1.Prog, .int .i64 r281.1.Version, .int .i64 r281.1.Pc, .int .i64 r281.1.Item.Map, .int .i64 r281.1.Item.Op, .int .u64 r281.1.Item.Key, .int .u64 r281.1.Item.Val, .int .i64 r281.1.Res.E, .bool r281.1.Res.Found, .int .u64 r281.1.Res.Val, .bool r281.1.Res.Out, .int .u64 r281.1.Res.OutKey, .int .u64 r281.1.Res.OutVal, .int .u64 r281.1.Val, .int .i64 r281.1.E]) rfl rfl rfl rfl (by kernel_rfl) (by kernel_rfl) (hst.blkN 1 rfl 0 22) ?_
     refine OW.row (α := api_Entry) (e := 46) (enc := enc_api_Entry) (sz := 22) hst rfl rfl rfl [r281.1] rfl (fun _ => rfl) rfl rfl (fun _ => by kernel_rfl) ?_
     intro g298 w299 hst
     obtain ⟨u300, hr301, hl253⟩ := bind_some' hl253
     refine OW.app hst 0 rfl (fun _ => rfl) (fun _ => rfl) rfl rfl rfl rfl rfl rfl (by kernel_rfl) el46 (hst.rd 2 rfl (fun _ => rfl) [] rfl (hst.len 2 rfl).1) (room_le hr301) ?_
     intro v302 w303 hst
     obtain ⟨l304, a305, c306, rfl⟩ := hst.len 0 rfl
     refine OW.pure 1 [(5, .slice a305 ((s254.1 ++ [r281.1])).length c306)] (by kernel_rfl) ?_
     refine OW.nil rfl ?_
     refine QW.next ?_
     refine CW.region ?_
     refine OW.pure 3 [(6, .int .i64 (w64 ((i256 : Int) + 1)))] (by kernel_rfl) ?_
     refine OW.nil rfl ?_
     refine QW.block_normal ?_
     refine QW.next ?_
     refine CW.region ?_
     refine OW.pure 3 [(7, .int .i64 (w64 ((i256 : Int) + 1)))] (by kernel_rfl) ?_
     refine OW.nil rfl ?_
     have hst := hst.shutP0 (enc := enc_api_Entry) (sz := 22) (he := fun _ => rfl) 1 rfl r281.1 rfl
     refine QW.say 7 rfl (congrArg (Value.int .i64) (w64_cnt hc263 (room_sz hr259))) ?_
     exact QW.meet (fun a ha => ⟨n252, Nat.lt_succ_self _, i256 + 1, ((s254.1 ++ [r281.1]), w64 ((i256 : Int) + 1)), (.slice a305 ((s254.1 ++ [r281.1])).length c306), cnt_next hi257, ha.agrees (by kernel_rfl), hst.keep [0] rfl, hl253⟩)
  ·rcases n252 with _ | n252
   ·refine CW.cond_f rfl hc263 ?_
    refine CW.exit ?_
    refine QW.then_exit ?_
    refine QW.then_exit ?_
    refine QW.block_here ?_
    obtain rfl := Option.some.inj hl253
    exact QW.meet (fun a ha => ⟨(s254.1, s254.2), (.slice a261 (s254.1).length c262), rfl, ha.agrees (by kernel_rfl), hst.keep [0] rfl⟩)
   ·exact (cnt1 hi257 hc263).elim
 ·rintro a w1 ⟨t155, v152, rfl, ha, hst⟩
  refine CW.go ?_ ha
  obtain ⟨l309, a310, c311, rfl⟩ := hst.len 0 rfl
  refine CW.seq ?_
  refine CW.seq ?_
  refine CW.region ?_
  refine OW.pure 4 [(42, .bool (decide (t155.2 < (p0.size : Int))))] (by kernel_rfl) ?_
  refine OW.nil rfl ?_
  refine QW.next ?_
  rcases Bool.eq_false_or_eq_true (decide (t155.2 < (p0.size : Int))) with hc312 | hc312
  ·have hF := ite_t hF hc312
   refine CW.cond_t rfl hc312 ?_
   refine CW.seq ?_
   refine CW.region ?_
   refine OW.pure 6 [(2, .slice none 0 0), (3, .int .i64 (w64 (((t155.1).length : Int) + 1))), (4, .int .i64 20)] (by kernel_rfl) ?_
   refine OW.nil rfl ?_
   refine QW.next ?_
   refine CW.ret ?_
   refine QW.then_ret ?_
   have hst := hst.nilRow api_Entry 46 enc_api_Entry 22
   obtain rfl := Option.some.inj hF
   refine QW.ret3 rfl rfl rfl rfl ?_
   exact ⟨(.slice none 0 0), rfl, hst.keep [1] rfl⟩
  ·have hF := ite_f hF hc312
   refine CW.cond_f rfl hc312 ?_
   refine CW.skip ?_
   refine QW.next ?_
   refine CW.seq ?_
   refine CW.region ?_
   refine OW.pure 4 [(2, .slice a310 (t155.1).length c311), (3, .int .i64 0), (4, .int .i64 0)] (by kernel_rfl) ?_
   refine OW.nil rfl ?_
   refine QW.next ?_
   refine CW.ret ?_
   obtain rfl := Option.some.inj hF
   refine QW.ret3 rfl rfl rfl rfl ?_
   exact ⟨(.slice a310 (t155.1).length c311), rfl, hst.keep [0] rfl⟩

set_option maxRecDepth 10000 in
set_option maxHeartbeats 4000000 in
theorem tappetlaw26_logs_ok (w : World) (v0 : Value) (p0 : List api_Entry) (v1 : Value) (p1 : List api_Entry) (r : Bool) (hF : tappetlaw26_logs p0 p1 = some r)
    (hst : St w (fp []) w []) (h0 : Rd w (fp []) v0 enc_api_Entry 22 p0) (h1 : Rd w (fp []) v1 enc_api_Entry 22 p1) :
    Calls Tryd.prog 11 [v0, v1].toArray w (fun e w' => e = .returned (.bool r) ∧ St w (fp []) w' []) := by
 refine CW.start (N := 26) Tryd.func11 rfl rfl rfl ?_
 obtain ⟨l1, a2, c3, rfl⟩ := h0.len
 obtain ⟨l4, a5, c6, rfl⟩ := h1.len
 refine CW.seq ?_
 refine CW.region ?_
 refine OW.pure 1 [] (by kernel_rfl) ?_
 refine OW.nil rfl ?_
 refine QW.next ?_
 refine CW.seq ?_
 refine CW.seq ?_
 refine CW.region ?_
 refine OW.pure 5 [(10, .bool (((p0).length : Int) != ((p1).length : Int)))] (by kernel_rfl) ?_
 refine OW.nil rfl ?_
 refine QW.next ?_
 rcases Bool.eq_false_or_eq_true ((((p0).length : Int) != ((p1).length : Int))) with hc7 | hc7
 ·have hF := ite_t hF hc7
  refine CW.cond_t rfl hc7 ?_
  refine CW.seq ?_
  refine CW.region ?_
  refine OW.pure 1 [(4, .bool false)] (by kernel_rfl) ?_
  refine OW.nil rfl ?_
  refine QW.next ?_
  refine CW.ret ?_
  refine QW.then_ret ?_
  obtain rfl := Option.some.inj hF
  refine QW.ret1 rfl rfl ?_
  exact ⟨rfl, hst.keep [] rfl⟩
 ·have hF := ite_f hF hc7
  refine CW.cond_f rfl hc7 ?_
  refine CW.skip ?_
  refine QW.next ?_
  refine CW.seq ?_
  refine CW.seq ?_
  refine CW.region ?_
  refine OW.pure 1 [(5, .int .i64 0)] (by kernel_rfl) ?_
  refine OW.nil rfl ?_
  refine QW.next ?_
  obtain ⟨o104, ho105, hF⟩ := bind_some' hF
  refine CW.cutK (fun a w1 => ∃ (t106 : Unit), o104 = .inl t106 ∧ Rep 26 [] a ∧ St w (fp []) w1 []) ?_ ?_
  ·refine CW.block ?_
   refine CW.loop (fun n a w1 => ∃ (i171 : Nat) (s170 : Unit), i171 + n = (p0).length ∧ Rep 26 [(0, .slice a2 (p0).length c3), (1, .slice a5 (p1).length c6), (5, .int .i64 (i171 : Int))] a ∧ St w (fp []) w1 [] ∧ forN (tappetlaw26_logs_l1 p0 p1) (fun (s170 : Unit) => (.inl ())) n i171 s170 = some o104) (p0).length (fun a ha => ⟨0, (), Nat.zero_add _, ha.agrees (by kernel_rfl), hst.keep [] rfl, ho105⟩) ?_
   rintro n168 a w1 ⟨i171, s170, hi172, ha, hst, hl169⟩
   refine CW.go ?_ ha
   refine CW.seq ?_
   refine CW.seq ?_
   refine CW.region ?_
   refine OW.pure 4 [(14, .bool (decide ((i171 : Int) < ((p0).length : Int))))] (by kernel_rfl) ?_
   refine OW.nil rfl ?_
   refine QW.next ?_
   rcases Bool.eq_false_or_eq_true (decide ((i171 : Int) < ((p0).length : Int))) with hc173 | hc173
   ·rcases n168 with _ | n168
    ·exact (cnt0 hi172 hc173).elim
    refine CW.cond_t rfl hc173 ?_
    refine CW.skip ?_
    refine QW.next ?_
    refine CW.seq ?_
    refine CW.block ?_
    refine CW.seq ?_
    refine CW.still (by kernel_rfl) (by kernel_rfl) ?_
    intro w188 hch189
    have hst := hst.same hch189
    refine OS.pure 2 [(17, .slice a2 (p0).length c3), (18, .int .i64 (i171 : Int))] rfl (by kernel_rfl) ?_
    obtain ⟨x190, hx191, hl169⟩ := bind_some' hl169
    obtain ⟨g193, o194, c195, hv192⟩ := h0.formv (fun _ => ⟨_, rfl⟩) hx191
    refine OS.idx 46 22 rfl rfl rfl rfl rfl hv192 rfl (idx_some hx191).1 (idx_some hx191).2.1 (by kernel_rfl) (by kernel_rfl) ?_
    refine OS.ldN (cs := enc_api_Entry x190) rfl rfl rfl rfl rfl (by kernel_rfl) (by kernel_rfl) (h0.cellv hst hx191 hv192) ?_
    refine OS.pure 2 [(21, .slice a5 (p1).length c6), (22, .int .i64 (i171 : Int))] rfl (by kernel_rfl) ?_
    obtain ⟨x196, hx197, hl169⟩ := bind_some' hl169
    obtain ⟨g199, o200, c201, hv198⟩ := h1.formv (fun _ => ⟨_, rfl⟩) hx197
    refine OS.idx 46 22 rfl rfl rfl rfl rfl hv198 rfl (idx_some hx197).1 (idx_some hx197).2.1 (by kernel_rfl) (by kernel_rfl) ?_
    refine OS.ldN (cs := enc_api_Entry x196) rfl rfl rfl rfl rfl (by kernel_rfl) (by kernel_rfl) (h1.cellv hst hx197 hv198) ?_
    refine OS.op (v := .bool (!((x190.What == x196.What) && ((x190.Task == x196.Task) && ((x190.From == x196.From) && ((x190.Cmd == x196.Cmd) && ((x190.Tag == x196.Tag) && ((x190.Event == x196.Event) && ((x190.Hook == x196.Hook) && ((x190.Prog == x196.Prog) && ((x190.Version == x196.Version) && ((x190.Pc == x196.Pc) && (((x190.Item.Map == x196.Item.Map) && ((x190.Item.Op == x196.Item.Op) && ((x190.Item.Key == x196.Item.Key) && ((x190.Item.Val == x196.Item.Val) && true)))) && (((x190.Res.E == x196.Res.E) && ((x190.Res.Found == x196.Res.Found) && ((x190.Res.Val == x196.Res.Val) && ((x190.Res.Out == x196.Res.Out) && ((x190.Res.OutKey == x196.Res.OutKey) && ((x190.Res.OutVal == x196.Res.OutVal) && true)))))) && ((x190.Val == x196.Val) && ((x190.E == x196.E) && true)))))))))))))))) rfl rfl rfl rfl rfl (fun a ha => sneq_run rfl rfl rfl (by kernel_rfl) (by kernel_rfl) a _ ha) ?_
    refine OS.fin rfl ?_
    refine QW.next ?_
    rcases Bool.eq_false_or_eq_true ((!((x190.What == x196.What) && ((x190.Task == x196.Task) && ((x190.From == x196.From) && ((x190.Cmd == x196.Cmd) && ((x190.Tag == x196.Tag) && ((x190.Event == x196.Event) && ((x190.Hook == x196.Hook) && ((x190.Prog == x196.Prog) && ((x190.Version == x196.Version) && ((x190.Pc == x196.Pc) && (((x190.Item.Map == x196.Item.Map) && ((x190.Item.Op == x196.Item.Op) && ((x190.Item.Key == x196.Item.Key) && ((x190.Item.Val == x196.Item.Val) && true)))) && (((x190.Res.E == x196.Res.E) && ((x190.Res.Found == x196.Res.Found) && ((x190.Res.Val == x196.Res.Val) && ((x190.Res.Out == x196.Res.Out) && ((x190.Res.OutKey == x196.Res.OutKey) && ((x190.Res.OutVal == x196.Res.OutVal) && true)))))) && ((x190.Val == x196.Val) && ((x190.E == x196.E) && true)))))))))))))))) with hc202 | hc202
    ·have hl169 := ite_t hl169 hc202
     refine CW.cond_t rfl hc202 ?_
     refine CW.seq ?_
     refine CW.region ?_
     refine OW.pure 1 [(4, .bool false)] (by kernel_rfl) ?_
     refine OW.nil rfl ?_
     refine QW.next ?_
     refine CW.ret ?_
     refine QW.block_ret ?_
     refine QW.then_ret ?_
     refine QW.then_ret ?_
     refine QW.block_ret ?_
     refine QW.then_ret ?_
     obtain rfl := Option.some.inj hl169
     obtain rfl := Option.some.inj hF
     refine QW.ret1 rfl rfl ?_
     exact ⟨rfl, hst.keep [] rfl⟩
    ·have hl169 := ite_f hl169 hc202
     refine CW.cond_f rfl hc202 ?_
     refine CW.skip ?_
     refine QW.block_normal ?_
     refine QW.next ?_
     refine CW.region ?_
     refine OW.pure 3 [(5, .int .i64 (w64 ((i171 : Int) + 1)))] (by kernel_rfl) ?_
     refine OW.nil rfl ?_
     refine QW.say 5 rfl (congrArg (Value.int .i64) (w64_cnt hc173 l1)) ?_
     exact QW.meet (fun a ha => ⟨n168, Nat.lt_succ_self _, i171 + 1, (), cnt_next hi172, ha.agrees (by kernel_rfl), hst.keep [] rfl, hl169⟩)
   ·rcases n168 with _ | n168
    ·refine CW.cond_f rfl hc173 ?_
     refine CW.exit ?_
     refine QW.then_exit ?_
     refine QW.then_exit ?_
     refine QW.block_here ?_
     obtain rfl := Option.some.inj hl169
     exact QW.meet (fun a ha => ⟨(), rfl, ha.agrees (by kernel_rfl), hst.keep [] rfl⟩)
    ·exact (cnt1 hi172 hc173).elim
  ·rintro a w1 ⟨t106, rfl, ha, hst⟩
   refine CW.go ?_ ha
   refine CW.seq ?_
   refine CW.region ?_
   refine OW.pure 1 [(4, .bool true)] (by kernel_rfl) ?_
   refine OW.nil rfl ?_
   refine QW.next ?_
   refine CW.ret ?_
   obtain rfl := Option.some.inj hF
   refine QW.ret1 rfl rfl ?_
   exact ⟨rfl, hst.keep [] rfl⟩

set_option maxRecDepth 10000 in
set_option maxHeartbeats 4000000 in
theorem tappetlaw26_TraceParses_ok (w : World) (fu : Nat) (p0 : ByteArray) (r : Bool) (hF : tappetlaw26_TraceParses fu p0 = some r)
    (hst : St w (fp []) w []) (hT0 : Rd w (fp []) (.slice (some ⟨0, 0, none⟩) 18 18) enc_trace_form 2 tab_g0) (hTL : LibG Tryd.prog 4 1 2 3 w (fp [])) :
    Calls Tryd.prog 3 [.string p0].toArray w (fun e w' => e = .returned (.bool r) ∧ St w (fp []) w' []) := by
 refine CW.start (N := 36) Tryd.func3 rfl rfl rfl ?_
 refine CW.seq ?_
 refine CW.region ?_
 refine OW.pure 1 [] (by kernel_rfl) ?_
 refine OW.nil rfl ?_
 refine QW.next ?_
 refine CW.seq ?_
 refine CW.seq ?_
 refine CW.region ?_
 obtain ⟨r5, hr6, hF⟩ := bind_some' hF
 refine OW.fn rfl rfl rfl rfl (by kernel_rfl) (tappetlaw26_awake_ok _ fu r5 hr6 (hst.part [] rfl) (hT0.give hst []) (hTL.give hst [])) ?_
 rintro e w7 ⟨rfl, hst8⟩
 refine ⟨_, rfl, ?_⟩
 have hst := hst.join (idx := []) (rest := []) rfl hst8
 refine OW.pure 1 [(10, .bool (!r5))] (by kernel_rfl) ?_
 refine OW.nil rfl ?_
 refine QW.next ?_
 rcases Bool.eq_false_or_eq_true ((!r5)) with hc9 | hc9
 ·have hF := ite_t hF hc9
  refine CW.cond_t rfl hc9 ?_
  refine CW.seq ?_
  refine CW.region ?_
  refine OW.pure 1 [(2, .bool false)] (by kernel_rfl) ?_
  refine OW.nil rfl ?_
  refine QW.next ?_
  refine CW.ret ?_
  refine QW.then_ret ?_
  obtain rfl := Option.some.inj hF
  refine QW.ret1 rfl rfl ?_
  exact ⟨rfl, hst.keep [] rfl⟩
 ·have hF := ite_f hF hc9
  refine CW.cond_f rfl hc9 ?_
  refine CW.skip ?_
  refine QW.next ?_
  refine CW.seq ?_
  refine CW.region ?_
  refine OW.pure 1 [(12, .string p0)] (by kernel_rfl) ?_
  obtain ⟨r18, hr19, hF⟩ := bind_some' hF
  refine OW.fn rfl rfl rfl rfl (by kernel_rfl) (trace_Parse_ok _ fu p0 r18 hr19 (hst.part [] rfl) (hT0.give hst []) (hTL.give hst [])) ?_
  rintro e w20 ⟨v22, rfl, hst21⟩
  refine ⟨_, rfl, ?_⟩
  have hst := hst.join (idx := []) (rest := []) rfl hst21
  obtain ⟨l23, a24, c25, rfl⟩ := hst.len 0 rfl
  refine OW.pure 7 [(3, .slice a24 (r18.1).length c25), (4, .int .i64 r18.2.1), (5, .int .i64 r18.2.2)] (by kernel_rfl) ?_
  refine OW.nil rfl ?_
  refine QW.next ?_
  refine CW.seq ?_
  refine CW.region ?_
  refine OW.pure 1 [(18, .string p0)] (by kernel_rfl) ?_
  obtain ⟨r34, hr35, hF⟩ := bind_some' hF
  refine OW.fn rfl rfl rfl rfl (by kernel_rfl) (tappetref26_Parse_ok _ fu p0 r34 hr35 (hst.part [] rfl)) ?_
  rintro e w36 ⟨v38, rfl, hst37⟩
  refine ⟨_, rfl, ?_⟩
  have hst := hst.join (idx := []) (rest := [0]) rfl hst37
  obtain ⟨l39, a40, c41, rfl⟩ := hst.len 0 rfl
  refine OW.pure 7 [(6, .slice a40 (r34.1).length c41), (7, .int .i64 r34.2.1), (8, .int .i64 r34.2.2)] (by kernel_rfl) ?_
  refine OW.nil rfl ?_
  refine QW.next ?_
  refine CW.seq ?_
  obtain ⟨o52, ho53, hF⟩ := bind_some' hF
  refine CW.cutK (fun a w1 => Rep 36 [(2, .bool o52)] a ∧ St w (fp []) w1 []) ?_ ?_
  ·refine CW.region ?_
   refine OW.pure 2 [(23, .slice a24 (r18.1).length c25), (24, .slice a40 (r34.1).length c41)] (by kernel_rfl) ?_
   obtain ⟨r54, hr55, ho53⟩ := bind_some' ho53
   refine OW.fn rfl rfl rfl rfl (by kernel_rfl) (tappetlaw26_logs_ok _ (.slice a24 (r18.1).length c25) r18.1 (.slice a40 (r34.1).length c41) r34.1 r54 hr55 (hst.part [] rfl) (hst.rd 1 rfl (fun _ => rfl) [] rfl (hst.len 1 rfl).1) (hst.rd 0 rfl (fun _ => rfl) [] rfl (hst.len 0 rfl).1)) ?_
   rintro e w56 ⟨rfl, hst57⟩
   refine ⟨_, rfl, ?_⟩
   have hst := hst.join (idx := []) (rest := [0, 1]) rfl hst57
   refine OW.pure 1 [(26, .bool r54)] (by kernel_rfl) ?_
   refine OW.split 26 rfl (fun hc58 => ?_) (fun hc58 => ?_)
   ·have ho53 := ite_t ho53 hc58
    refine OW.pure 5 [(31, .bool (r18.2.1 == r34.2.1))] (by kernel_rfl) ?_
    refine OW.split 31 rfl (fun hc59 => ?_) (fun hc59 => ?_)
    ·have ho53 := ite_t ho53 hc59
     refine OW.pure 5 [(2, .bool (r18.2.2 == r34.2.2))] (by kernel_rfl) ?_
     refine OW.nil rfl ?_
     obtain rfl := Option.some.inj ho53
     exact QW.meet (fun a ha => ⟨ha.agrees (by kernel_rfl), hst.keep [] rfl⟩)
    ·have ho53 := ite_f ho53 hc59
     refine OW.pure 5 [(2, .bool false)] (by kernel_rfl) ?_
     refine OW.nil rfl ?_
     obtain rfl := Option.some.inj ho53
     exact QW.meet (fun a ha => ⟨ha.agrees (by kernel_rfl), hst.keep [] rfl⟩)
   ·have ho53 := ite_f ho53 hc58
    refine OW.pure 10 [(2, .bool false)] (by kernel_rfl) ?_
    refine OW.nil rfl ?_
    obtain rfl := Option.some.inj ho53
    exact QW.meet (fun a ha => ⟨ha.agrees (by kernel_rfl), hst.keep [] rfl⟩)
  ·rintro a w1 ⟨ha, hst⟩
   refine CW.go ?_ ha
   refine CW.ret ?_
   obtain rfl := Option.some.inj hF
   refine QW.ret1 rfl rfl ?_
   exact ⟨rfl, hst.keep [] rfl⟩

set_option maxRecDepth 10000 in
set_option maxHeartbeats 4000000 in
theorem tappetlaw26_TraceBack_ok (w : World) (fu : Nat) (v0 : Value) (p0 : List api_Entry) (p1 : ByteArray) (r : Bool) (hF : tappetlaw26_TraceBack fu p0 p1 = some r)
    (hst : St w (fp []) w []) (h0 : Rd w (fp []) v0 enc_api_Entry 22 p0) (hT0 : Rd w (fp []) (.slice (some ⟨0, 0, none⟩) 18 18) enc_trace_form 2 tab_g0) (hTL : LibG Tryd.prog 4 1 2 3 w (fp [])) :
    Calls Tryd.prog 4 [v0, .string p1].toArray w (fun e w' => e = .returned (.bool r) ∧ St w (fp []) w' []) := by
 refine CW.start (N := 135) Tryd.func4 rfl rfl rfl ?_
 obtain ⟨l1, a2, c3, rfl⟩ := h0.len
 refine CW.seq ?_
 refine CW.region ?_
 refine OW.pure 1 [] (by kernel_rfl) ?_
 refine OW.nil rfl ?_
 refine QW.next ?_
 refine CW.seq ?_
 refine CW.seq ?_
 refine CW.region ?_
 obtain ⟨r8, hr9, hF⟩ := bind_some' hF
 refine OW.fn rfl rfl rfl rfl (by kernel_rfl) (tappetlaw26_awake_ok _ fu r8 hr9 (hst.part [] rfl) (hT0.give hst []) (hTL.give hst [])) ?_
 rintro e w10 ⟨rfl, hst11⟩
 refine ⟨_, rfl, ?_⟩
 have hst := hst.join (idx := []) (rest := []) rfl hst11
 refine OW.pure 1 [(21, .bool (!r8))] (by kernel_rfl) ?_
 refine OW.nil rfl ?_
 refine QW.next ?_
 rcases Bool.eq_false_or_eq_true ((!r8)) with hc12 | hc12
 ·have hF := ite_t hF hc12
  refine CW.cond_t rfl hc12 ?_
  refine CW.seq ?_
  refine CW.region ?_
  refine OW.pure 1 [(4, .bool false)] (by kernel_rfl) ?_
  refine OW.nil rfl ?_
  refine QW.next ?_
  refine CW.ret ?_
  refine QW.then_ret ?_
  obtain rfl := Option.some.inj hF
  refine QW.ret1 rfl rfl ?_
  exact ⟨rfl, hst.keep [] rfl⟩
 ·have hF := ite_f hF hc12
  refine CW.cond_f rfl hc12 ?_
  refine CW.skip ?_
  refine QW.next ?_
  refine CW.seq ?_
  refine CW.region ?_
  refine OW.pure 1 [(23, .slice a2 (p0).length c3)] (by kernel_rfl) ?_
  obtain ⟨r17, hr18, hF⟩ := bind_some' hF
  refine OW.fn rfl rfl rfl rfl (by kernel_rfl) (trace_Print_ok _ fu (.slice a2 (p0).length c3) p0 r17 hr18 (hst.part [] rfl) (h0.give hst []) (hT0.give hst []) (hTL.give hst [])) ?_
  rintro e w19 ⟨rfl, hst20⟩
  refine ⟨_, rfl, ?_⟩
  have hst := hst.join (idx := []) (rest := []) rfl hst20
  refine OW.pure 5 [(5, .string r17.1), (6, .int .i64 r17.2)] (by kernel_rfl) ?_
  refine OW.nil rfl ?_
  refine QW.next ?_
  refine CW.seq ?_
  refine CW.region ?_
  refine OW.pure 1 [(28, .string r17.1)] (by kernel_rfl) ?_
  obtain ⟨r29, hr30, hF⟩ := bind_some' hF
  refine OW.fn rfl rfl rfl rfl (by kernel_rfl) (trace_Parse_ok _ fu r17.1 r29 hr30 (hst.part [] rfl) (hT0.give hst []) (hTL.give hst [])) ?_
  rintro e w31 ⟨v33, rfl, hst32⟩
  refine ⟨_, rfl, ?_⟩
  have hst := hst.join (idx := []) (rest := []) rfl hst32
  obtain ⟨l34, a35, c36, rfl⟩ := hst.len 0 rfl
  refine OW.pure 7 [(7, .slice a35 (r29.1).length c36), (8, .int .i64 r29.2.1), (9, .int .i64 r29.2.2)] (by kernel_rfl) ?_
  refine OW.nil rfl ?_
  refine QW.next ?_
  refine CW.seq ?_
  refine CW.seq ?_
  obtain ⟨o57, ho58, hF⟩ := bind_some' hF
  refine CW.cutK (fun a w1 => Rep 135 [(1, .string p1), (5, .string r17.1), (7, .slice a35 (r29.1).length c36), (60, .bool o57)] a ∧ St w (fp []) w1 [rowI (.slice a35 (r29.1).length c36) 46 enc_api_Entry 22 r29.1]) ?_ ?_
  ·refine CW.region ?_
   refine OW.pure 3 [(35, .bool (r29.2.2 != 0))] (by kernel_rfl) ?_
   refine OW.split 35 rfl (fun hc59 => ?_) (fun hc59 => ?_)
   ·have ho58 := ite_t ho58 hc59
    refine OW.pure 25 [(60, .bool true)] (by kernel_rfl) ?_
    refine OW.nil rfl ?_
    obtain rfl := Option.some.inj ho58
    exact QW.meet (fun a ha => ⟨ha.agrees (by kernel_rfl), hst.keep [0] rfl⟩)
   ·have ho58 := ite_f ho58 hc59
    refine OW.pure 4 [(39, .bool (r29.2.1 != 0))] (by kernel_rfl) ?_
    refine OW.split 39 rfl (fun hc60 => ?_) (fun hc60 => ?_)
    ·have ho58 := ite_t ho58 hc60
     refine OW.pure 21 [(60, .bool true)] (by kernel_rfl) ?_
     refine OW.nil rfl ?_
     obtain rfl := Option.some.inj ho58
     exact QW.meet (fun a ha => ⟨ha.agrees (by kernel_rfl), hst.keep [0] rfl⟩)
    ·have ho58 := ite_f ho58 hc60
     refine OW.pure 3 [(42, .bool (r17.2 == 0))] (by kernel_rfl) ?_
     refine OW.split 42 rfl (fun hc61 => ?_) (fun hc61 => ?_)
     ·have ho58 := ite_t ho58 hc61
      refine OW.pure 2 [(43, .slice a35 (r29.1).length c36), (44, .slice a2 (p0).length c3)] (by kernel_rfl) ?_
      obtain ⟨r62, hr63, ho58⟩ := bind_some' ho58
      refine OW.fn rfl rfl rfl rfl (by kernel_rfl) (tappetlaw26_logs_ok _ (.slice a35 (r29.1).length c36) r29.1 (.slice a2 (p0).length c3) p0 r62 hr63 (hst.part [] rfl) (hst.rd 0 rfl (fun _ => rfl) [] rfl (hst.len 0 rfl).1) (h0.give hst [])) ?_
      rintro e w64 ⟨rfl, hst65⟩
      refine ⟨_, rfl, ?_⟩
      have hst := hst.join (idx := []) (rest := [0]) rfl hst65
      refine OW.pure 4 [(49, .bool (!r62))] (by kernel_rfl) ?_
      refine OW.split 49 rfl (fun hc66 => ?_) (fun hc66 => ?_)
      ·have ho58 := ite_t ho58 hc66
       refine OW.pure 11 [(60, .bool true)] (by kernel_rfl) ?_
       refine OW.nil rfl ?_
       obtain rfl := Option.some.inj ho58
       exact QW.meet (fun a ha => ⟨ha.agrees (by kernel_rfl), hst.keep [0] rfl⟩)
      ·have ho58 := ite_f ho58 hc66
       refine OW.pure 3 [(52, .bool (r17.2 != 0))] (by kernel_rfl) ?_
       refine OW.split 52 rfl (fun hc67 => ?_) (fun hc67 => ?_)
       ·have ho58 := ite_t ho58 hc67
        refine OW.pure 3 [(55, .bool (sNe r17.1 ByteArray.empty))] (by kernel_rfl) ?_
        refine OW.split 55 rfl (fun hc68 => ?_) (fun hc68 => ?_)
        ·have ho58 := ite_t ho58 hc68
         refine OW.pure 5 [(60, .bool true)] (by kernel_rfl) ?_
         refine OW.nil rfl ?_
         obtain rfl := Option.some.inj ho58
         exact QW.meet (fun a ha => ⟨ha.agrees (by kernel_rfl), hst.keep [0] rfl⟩)
        ·have ho58 := ite_f ho58 hc68
         refine OW.pure 1 [(56, .slice a2 (p0).length c3)] (by kernel_rfl) ?_
         obtain ⟨r69, hr70, ho58⟩ := bind_some' ho58
         refine OW.fn rfl rfl rfl rfl (by kernel_rfl) (trace_Plain_ok _ fu (.slice a2 (p0).length c3) p0 r69 hr70 (hst.part [] rfl) (h0.give hst []) (hT0.give hst []) (hTL.give hst [])) ?_
         rintro e w71 ⟨rfl, hst72⟩
         refine ⟨_, rfl, ?_⟩
         have hst := hst.join (idx := []) (rest := [0]) rfl hst72
         refine OW.pure 3 [(60, .bool r69)] (by kernel_rfl) ?_
         refine OW.nil rfl ?_
         obtain rfl := Option.some.inj ho58
         exact QW.meet (fun a ha => ⟨ha.agrees (by kernel_rfl), hst.keep [0] rfl⟩)
       ·have ho58 := ite_f ho58 hc67
        refine OW.pure 8 [(60, .bool false)] (by kernel_rfl) ?_
        refine OW.nil rfl ?_
        obtain rfl := Option.some.inj ho58
        exact QW.meet (fun a ha => ⟨ha.agrees (by kernel_rfl), hst.keep [0] rfl⟩)
     ·have ho58 := ite_f ho58 hc61
      refine OW.pure 10 [(49, .bool false), (52, .bool (r17.2 != 0))] (by kernel_rfl) ?_
      refine OW.split 52 rfl (fun hc73 => ?_) (fun hc73 => ?_)
      ·have ho58 := ite_t ho58 hc73
       refine OW.pure 3 [(55, .bool (sNe r17.1 ByteArray.empty))] (by kernel_rfl) ?_
       refine OW.split 55 rfl (fun hc74 => ?_) (fun hc74 => ?_)
       ·have ho58 := ite_t ho58 hc74
        refine OW.pure 5 [(60, .bool true)] (by kernel_rfl) ?_
        refine OW.nil rfl ?_
        obtain rfl := Option.some.inj ho58
        exact QW.meet (fun a ha => ⟨ha.agrees (by kernel_rfl), hst.keep [0] rfl⟩)
       ·have ho58 := ite_f ho58 hc74
        refine OW.pure 1 [(56, .slice a2 (p0).length c3)] (by kernel_rfl) ?_
        obtain ⟨r75, hr76, ho58⟩ := bind_some' ho58
        refine OW.fn rfl rfl rfl rfl (by kernel_rfl) (trace_Plain_ok _ fu (.slice a2 (p0).length c3) p0 r75 hr76 (hst.part [] rfl) (h0.give hst []) (hT0.give hst []) (hTL.give hst [])) ?_
        rintro e w77 ⟨rfl, hst78⟩
        refine ⟨_, rfl, ?_⟩
        have hst := hst.join (idx := []) (rest := [0]) rfl hst78
        refine OW.pure 3 [(60, .bool r75)] (by kernel_rfl) ?_
        refine OW.nil rfl ?_
        obtain rfl := Option.some.inj ho58
        exact QW.meet (fun a ha => ⟨ha.agrees (by kernel_rfl), hst.keep [0] rfl⟩)
      ·have ho58 := ite_f ho58 hc73
       refine OW.pure 8 [(60, .bool false)] (by kernel_rfl) ?_
       refine OW.nil rfl ?_
       obtain rfl := Option.some.inj ho58
       exact QW.meet (fun a ha => ⟨ha.agrees (by kernel_rfl), hst.keep [0] rfl⟩)
  ·rintro a w1 ⟨ha, hst⟩
   refine CW.go ?_ ha
   rcases Bool.eq_false_or_eq_true (o57) with hc79 | hc79
   ·have hF := ite_t hF hc79
    refine CW.cond_t rfl hc79 ?_
    refine CW.seq ?_
    refine CW.region ?_
    refine OW.pure 1 [(4, .bool false)] (by kernel_rfl) ?_
    refine OW.nil rfl ?_
    refine QW.next ?_
    refine CW.ret ?_
    refine QW.then_ret ?_
    obtain rfl := Option.some.inj hF
    refine QW.ret1 rfl rfl ?_
    exact ⟨rfl, hst.keep [] rfl⟩
   ·have hF := ite_f hF hc79
    refine CW.cond_f rfl hc79 ?_
    refine CW.skip ?_
    refine QW.next ?_
    refine CW.seq ?_
    refine CW.region ?_
    refine OW.pure 1 [(62, .string p1)] (by kernel_rfl) ?_
    obtain ⟨r88, hr89, hF⟩ := bind_some' hF
    refine OW.fn rfl rfl rfl rfl (by kernel_rfl) (trace_Parse_ok _ fu p1 r88 hr89 (hst.part [] rfl) (hT0.give hst []) (hTL.give hst [])) ?_
    rintro e w90 ⟨v92, rfl, hst91⟩
    refine ⟨_, rfl, ?_⟩
    have hst := hst.join (idx := []) (rest := [0]) rfl hst91
    obtain ⟨l93, a94, c95, rfl⟩ := hst.len 0 rfl
    refine OW.pure 7 [(10, .slice a94 (r88.1).length c95), (8, .int .i64 r88.2.1), (11, .int .i64 r88.2.2)] (by kernel_rfl) ?_
    refine OW.nil rfl ?_
    refine QW.next ?_
    refine CW.seq ?_
    refine CW.seq ?_
    refine CW.region ?_
    refine OW.pure 2 [(68, .bool (r88.2.2 != 0))] (by kernel_rfl) ?_
    refine OW.nil rfl ?_
    refine QW.next ?_
    rcases Bool.eq_false_or_eq_true ((r88.2.2 != 0)) with hc96 | hc96
    ·have hF := ite_t hF hc96
     refine CW.cond_t rfl hc96 ?_
     refine CW.seq ?_
     refine CW.region ?_
     refine OW.pure 2 [(70, .string r17.1), (71, .string p1)] (by kernel_rfl) ?_
     obtain ⟨x107, hx108, hF⟩ := bind_some' hF
     refine OW.op (v := .string x107) rfl rfl rfl rfl (fun a ha => cat_run rfl rfl rfl (by kernel_rfl) hx108 a _ ha) ?_
     obtain ⟨r109, hr110, hF⟩ := bind_some' hF
     refine OW.fn rfl rfl rfl rfl (by kernel_rfl) (trace_Parse_ok _ fu x107 r109 hr110 (hst.part [] rfl) (hT0.give hst []) (hTL.give hst [])) ?_
     rintro e w111 ⟨v113, rfl, hst112⟩
     refine ⟨_, rfl, ?_⟩
     have hst := hst.join (idx := []) (rest := [0, 1]) rfl hst112
     obtain ⟨l114, a115, c116, rfl⟩ := hst.len 0 rfl
     refine OW.pure 7 [(12, .slice a115 (r109.1).length c116), (13, .int .i64 r109.2.1), (14, .int .i64 r109.2.2)] (by kernel_rfl) ?_
     refine OW.nil rfl ?_
     refine QW.next ?_
     refine CW.seq ?_
     refine CW.cutK (fun a w1 => Rep 135 [(4, .bool ((((decide (r88.2.1 ≥ 1) && (((r88.1).length : Int) == 0)) && (r109.2.2 == r88.2.2)) && (r109.2.1 == (w64 (r88.2.1 + ((r29.1).length : Int))))) && (((r109.1).length : Int) == 0)))] a ∧ St w (fp []) w1 []) ?_ ?_
     ·refine CW.region ?_
      refine OW.pure 3 [(79, .bool (decide (r88.2.1 ≥ 1)))] (by kernel_rfl) ?_
      refine OW.split 79 rfl (fun hc117 => ?_) (fun hc117 => ?_)
      ·refine OW.pure 5 [(84, .bool (((r88.1).length : Int) == 0))] (by kernel_rfl) ?_
       refine OW.split 84 rfl (fun hc118 => ?_) (fun hc118 => ?_)
       ·refine OW.pure 5 [(89, .bool (r109.2.2 == r88.2.2))] (by kernel_rfl) ?_
        refine OW.split 89 rfl (fun hc119 => ?_) (fun hc119 => ?_)
        ·refine OW.pure 8 [(97, .bool (r109.2.1 == (w64 (r88.2.1 + ((r29.1).length : Int)))))] (by kernel_rfl) ?_
         refine OW.split 97 rfl (fun hc120 => ?_) (fun hc120 => ?_)
         ·refine OW.pure 5 [(4, .bool (((r109.1).length : Int) == 0))] (by kernel_rfl) ?_
          refine OW.nil rfl ?_
          refine QW.say 4 (v := .bool ((((decide (r88.2.1 ≥ 1) && (((r88.1).length : Int) == 0)) && (r109.2.2 == r88.2.2)) && (r109.2.1 == (w64 (r88.2.1 + ((r29.1).length : Int))))) && (((r109.1).length : Int) == 0))) rfl (by first | (rw [hc117, hc118, hc119, hc120]; done) | (rw [hc117, hc118, hc119, hc120]; rfl) | simp [hc117, hc118, hc119, hc120]) ?_
          exact QW.meet (fun a ha => ⟨ha.agrees (by kernel_rfl), hst.keep [] rfl⟩)
         ·refine OW.pure 5 [(4, .bool false)] (by kernel_rfl) ?_
          refine OW.nil rfl ?_
          refine QW.say 4 (v := .bool ((((decide (r88.2.1 ≥ 1) && (((r88.1).length : Int) == 0)) && (r109.2.2 == r88.2.2)) && (r109.2.1 == (w64 (r88.2.1 + ((r29.1).length : Int))))) && (((r109.1).length : Int) == 0))) rfl (by first | (rw [hc117, hc118, hc119, hc120]; done) | (rw [hc117, hc118, hc119, hc120]; rfl) | simp [hc117, hc118, hc119, hc120]) ?_
          exact QW.meet (fun a ha => ⟨ha.agrees (by kernel_rfl), hst.keep [] rfl⟩)
        ·refine OW.pure 13 [(4, .bool false)] (by kernel_rfl) ?_
         refine OW.nil rfl ?_
         refine QW.say 4 (v := .bool ((((decide (r88.2.1 ≥ 1) && (((r88.1).length : Int) == 0)) && (r109.2.2 == r88.2.2)) && (r109.2.1 == (w64 (r88.2.1 + ((r29.1).length : Int))))) && (((r109.1).length : Int) == 0))) rfl (by first | (rw [hc117, hc118, hc119]; done) | (rw [hc117, hc118, hc119]; rfl) | simp [hc117, hc118, hc119]) ?_
         exact QW.meet (fun a ha => ⟨ha.agrees (by kernel_rfl), hst.keep [] rfl⟩)
       ·refine OW.pure 18 [(4, .bool false)] (by kernel_rfl) ?_
        refine OW.nil rfl ?_
        refine QW.say 4 (v := .bool ((((decide (r88.2.1 ≥ 1) && (((r88.1).length : Int) == 0)) && (r109.2.2 == r88.2.2)) && (r109.2.1 == (w64 (r88.2.1 + ((r29.1).length : Int))))) && (((r109.1).length : Int) == 0))) rfl (by first | (rw [hc117, hc118]; done) | (rw [hc117, hc118]; rfl) | simp [hc117, hc118]) ?_
        exact QW.meet (fun a ha => ⟨ha.agrees (by kernel_rfl), hst.keep [] rfl⟩)
      ·refine OW.pure 23 [(4, .bool false)] (by kernel_rfl) ?_
       refine OW.nil rfl ?_
       refine QW.say 4 (v := .bool ((((decide (r88.2.1 ≥ 1) && (((r88.1).length : Int) == 0)) && (r109.2.2 == r88.2.2)) && (r109.2.1 == (w64 (r88.2.1 + ((r29.1).length : Int))))) && (((r109.1).length : Int) == 0))) rfl (by first | (rw [hc117]; done) | (rw [hc117]; rfl) | simp [hc117]) ?_
       exact QW.meet (fun a ha => ⟨ha.agrees (by kernel_rfl), hst.keep [] rfl⟩)
     ·rintro a w1 ⟨ha, hst⟩
      refine CW.go ?_ ha
      refine CW.ret ?_
      refine QW.then_ret ?_
      obtain rfl := Option.some.inj hF
      refine QW.ret1 rfl rfl ?_
      exact ⟨rfl, hst.keep [] rfl⟩
    ·have hF := ite_f hF hc96
     refine CW.cond_f rfl hc96 ?_
     refine CW.skip ?_
     refine QW.next ?_
     refine CW.seq ?_
     refine CW.region ?_
     refine OW.pure 1 [(103, .slice a94 (r88.1).length c95)] (by kernel_rfl) ?_
     obtain ⟨r125, hr126, hF⟩ := bind_some' hF
     refine OW.fn rfl rfl rfl rfl (by kernel_rfl) (trace_Print_ok _ fu (.slice a94 (r88.1).length c95) r88.1 r125 hr126 (hst.part [] rfl) (hst.rd 0 rfl (fun _ => rfl) [] rfl (hst.len 0 rfl).1) (hT0.give hst []) (hTL.give hst [])) ?_
     rintro e w127 ⟨rfl, hst128⟩
     refine ⟨_, rfl, ?_⟩
     have hst := hst.join (idx := []) (rest := [0, 1]) rfl hst128
     refine OW.pure 5 [(15, .string r125.1), (16, .int .i64 r125.2)] (by kernel_rfl) ?_
     refine OW.nil rfl ?_
     refine QW.next ?_
     refine CW.seq ?_
     refine CW.region ?_
     refine OW.pure 2 [(108, .string r17.1), (109, .string p1)] (by kernel_rfl) ?_
     obtain ⟨x139, hx140, hF⟩ := bind_some' hF
     refine OW.op (v := .string x139) rfl rfl rfl rfl (fun a ha => cat_run rfl rfl rfl (by kernel_rfl) hx140 a _ ha) ?_
     obtain ⟨r141, hr142, hF⟩ := bind_some' hF
     refine OW.fn rfl rfl rfl rfl (by kernel_rfl) (trace_Parse_ok _ fu x139 r141 hr142 (hst.part [] rfl) (hT0.give hst []) (hTL.give hst [])) ?_
     rintro e w143 ⟨v145, rfl, hst144⟩
     refine ⟨_, rfl, ?_⟩
     have hst := hst.join (idx := []) (rest := [0, 1]) rfl hst144
     obtain ⟨l146, a147, c148, rfl⟩ := hst.len 0 rfl
     refine OW.pure 7 [(17, .slice a147 (r141.1).length c148), (19, .int .i64 r141.2.2)] (by kernel_rfl) ?_
     refine OW.nil rfl ?_
     refine QW.next ?_
     refine CW.seq ?_
     obtain ⟨o172, ho173, hF⟩ := bind_some' hF
     refine CW.cutK (fun a w1 => Rep 135 [(4, .bool o172)] a ∧ St w (fp []) w1 []) ?_ ?_
     ·refine CW.region ?_
      refine OW.pure 3 [(117, .bool (r125.2 == 0))] (by kernel_rfl) ?_
      refine OW.split 117 rfl (fun hc174 => ?_) (fun hc174 => ?_)
      ·have ho173 := ite_t ho173 hc174
       refine OW.pure 5 [(122, .bool (sEq r125.1 p1))] (by kernel_rfl) ?_
       refine OW.split 122 rfl (fun hc175 => ?_) (fun hc175 => ?_)
       ·have ho173 := ite_t ho173 hc175
        refine OW.pure 4 [(126, .bool (r141.2.2 == 0))] (by kernel_rfl) ?_
        refine OW.split 126 rfl (fun hc176 => ?_) (fun hc176 => ?_)
        ·have ho173 := ite_t ho173 hc176
         refine OW.pure 1 [(127, .slice a147 (r141.1).length c148)] (by kernel_rfl) ?_
         refine OW.row (α := api_Entry) (e := 46) (enc := enc_api_Entry) (sz := 22) hst rfl rfl rfl [] rfl (fun _ => rfl) rfl rfl (fun _ => by kernel_rfl) ?_
         intro g177 w178 hst
         refine OW.pure 1 [(129, .slice a35 (r29.1).length c36)] (by kernel_rfl) ?_
         obtain ⟨u179, hr180, ho173⟩ := bind_some' ho173
         refine OW.app hst 3 rfl (fun _ => rfl) (fun _ => rfl) rfl rfl rfl rfl rfl rfl (by kernel_rfl) el46 (hst.rd 2 rfl (fun _ => rfl) [] rfl (hst.len 2 rfl).1) (room_le hr180) ?_
         intro v181 w182 hst
         obtain ⟨l183, a184, c185, rfl⟩ := hst.len 3 rfl
         refine OW.pure 1 [(131, .slice a94 (r88.1).length c95)] (by kernel_rfl) ?_
         obtain ⟨u186, hr187, ho173⟩ := bind_some' ho173
         refine OW.app hst 3 rfl (fun _ => rfl) (fun _ => rfl) rfl rfl rfl rfl rfl rfl (by kernel_rfl) el46 (hst.rd 1 rfl (fun _ => rfl) [] rfl (hst.len 1 rfl).1) (room_le hr187) ?_
         intro v188 w189 hst
         obtain ⟨l190, a191, c192, rfl⟩ := hst.len 3 rfl
         obtain ⟨r193, hr194, ho173⟩ := bind_some' ho173
         refine OW.fn rfl rfl rfl rfl (by kernel_rfl) (tappetlaw26_logs_ok _ (.slice a147 (r141.1).length c148) r141.1 (.slice a191 (((([] : List api_Entry) ++ r29.1) ++ r88.1)).length c192) ((([] : List api_Entry) ++ r29.1) ++ r88.1) r193 hr194 (hst.part [] rfl) (hst.rd 0 rfl (fun _ => rfl) [] rfl (hst.len 0 rfl).1) (hst.rd 3 rfl (fun _ => rfl) [] rfl (hst.len 3 rfl).1)) ?_
         rintro e w195 ⟨rfl, hst196⟩
         refine ⟨_, rfl, ?_⟩
         have hst := hst.join (idx := []) (rest := [0, 1, 2, 3]) rfl hst196
         refine OW.pure 2 [(4, .bool r193)] (by kernel_rfl) ?_
         refine OW.nil rfl ?_
         obtain rfl := Option.some.inj ho173
         exact QW.meet (fun a ha => ⟨ha.agrees (by kernel_rfl), hst.keep [] rfl⟩)
        ·have ho173 := ite_f ho173 hc176
         refine OW.pure 9 [(4, .bool false)] (by kernel_rfl) ?_
         refine OW.nil rfl ?_
         obtain rfl := Option.some.inj ho173
         exact QW.meet (fun a ha => ⟨ha.agrees (by kernel_rfl), hst.keep [] rfl⟩)
       ·have ho173 := ite_f ho173 hc175
        refine OW.pure 13 [(4, .bool false)] (by kernel_rfl) ?_
        refine OW.nil rfl ?_
        obtain rfl := Option.some.inj ho173
        exact QW.meet (fun a ha => ⟨ha.agrees (by kernel_rfl), hst.keep [] rfl⟩)
      ·have ho173 := ite_f ho173 hc174
       refine OW.pure 18 [(4, .bool false)] (by kernel_rfl) ?_
       refine OW.nil rfl ?_
       obtain rfl := Option.some.inj ho173
       exact QW.meet (fun a ha => ⟨ha.agrees (by kernel_rfl), hst.keep [] rfl⟩)
     ·rintro a w1 ⟨ha, hst⟩
      refine CW.go ?_ ha
      refine CW.ret ?_
      obtain rfl := Option.some.inj hF
      refine QW.ret1 rfl rfl ?_
      exact ⟨rfl, hst.keep [] rfl⟩

set_option maxRecDepth 10000 in
set_option maxHeartbeats 4000000 in
theorem trace_Name_ok (w : World) (p0 : Int) (r : ByteArray) (hF : trace_Name p0 = some r)
    (hst : St w (fp []) w []) (hT0 : Rd w (fp []) (.slice (some ⟨0, 0, none⟩) 18 18) enc_trace_form 2 tab_g0) :
    Calls Tryd.prog 14 [.int .i64 p0].toArray w (fun e w' => e = .returned (.string r) ∧ St w (fp []) w' []) := by
 refine CW.start (N := 12) Tryd.func14 rfl rfl rfl ?_
 refine CW.seq ?_
 refine CW.region ?_
 refine OW.pure 1 [] (by kernel_rfl) ?_
 refine OW.nil rfl ?_
 refine QW.next ?_
 refine CW.seq ?_
 refine CW.region ?_
 refine OW.pure 1 [(6, .int .i64 p0)] (by kernel_rfl) ?_
 obtain ⟨r8, hr9, hF⟩ := bind_some' hF
 refine OW.fn rfl rfl rfl rfl (by kernel_rfl) (trace_of_ok _ p0 r8 hr9 (hst.part [] rfl) (hT0.give hst [])) ?_
 rintro e w10 ⟨rfl, hst11⟩
 refine ⟨_, rfl, ?_⟩
 have hst := hst.join (idx := []) (rest := []) rfl hst11
 refine OW.pure 3 [(8, .agg [.string r8.1.name, .string r8.1.fields].toArray), (9, .bool r8.2)] (by kernel_rfl) ?_
 refine OW.alloc hst rfl rfl rfl [.string ByteArray.empty, .string ByteArray.empty] (by kernel_rfl) ?_
 intro b12 w13 hst
 refine OW.stB hst 0 rfl rfl rfl rfl rfl (by kernel_rfl) rfl rfl [.string r8.1.name, .string r8.1.fields] rfl ?_
 intro w14 hst
 refine OW.pure 1 [] (by kernel_rfl) ?_
 refine OW.nil rfl ?_
 refine QW.next ?_
 refine CW.seq ?_
 refine CW.region ?_
 refine OW.pure 1 [(10, .pointer (some ⟨b12, 0, none⟩))] (by kernel_rfl) ?_
 refine OW.ld rfl rfl rfl rfl (by kernel_rfl) (hst.blk 0 rfl rfl) ?_
 refine OW.pure 1 [(2, .string r8.1.name)] (by kernel_rfl) ?_
 refine OW.nil rfl ?_
 refine QW.next ?_
 refine CW.ret ?_
 obtain rfl := Option.some.inj hF
 refine QW.ret1 rfl rfl ?_
 exact ⟨rfl, hst.keep [] rfl⟩

set_option maxRecDepth 10000 in
set_option maxHeartbeats 4000000 in
theorem tappetref26_Plain_ok (w : World) (p0 : api_Entry) (r : Bool) (hF : tappetref26_Plain p0 = some r)
    (hst : St w (fp []) w []) :
    Calls Tryd.prog 16 [.agg [.int .i64 p0.What, .int .i64 p0.Task, .int .i64 p0.From, .int .i64 p0.Cmd, .int .i64 p0.Tag, .int .i64 p0.Event, .int .i64 p0.Hook, .int .i64 p0.Prog, .int .i64 p0.Version, .int .i64 p0.Pc, .int .i64 p0.Item.Map, .int .i64 p0.Item.Op, .int .u64 p0.Item.Key, .int .u64 p0.Item.Val, .int .i64 p0.Res.E, .bool p0.Res.Found, .int .u64 p0.Res.Val, .bool p0.Res.Out, .int .u64 p0.Res.OutKey, .int .u64 p0.Res.OutVal, .int .u64 p0.Val, .int .i64 p0.E].toArray].toArray w (fun e w' => e = .returned (.bool r) ∧ St w (fp []) w' []) := by
 refine CW.start (N := 65) Tryd.func16 rfl rfl rfl ?_
 refine CW.seq ?_
 refine CW.region ?_
 refine OW.box hst rfl rfl rfl rfl [.int .i64 p0.What, .int .i64 p0.Task, .int .i64 p0.From, .int .i64 p0.Cmd, .int .i64 p0.Tag, .int .i64 p0.Event, .int .i64 p0.Hook, .int .i64 p0.Prog, .int .i64 p0.Version, .int .i64 p0.Pc, .int .i64 p0.Item.Map, .int .i64 p0.Item.Op, .int .u64 p0.Item.Key, .int .u64 p0.Item.Val, .int .i64 p0.Res.E, .bool p0.Res.Found, .int .u64 p0.Res.Val, .bool p0.Res.Out, .int .u64 p0.Res.OutKey, .int .u64 p0.Res.OutVal, .int .u64 p0.Val, .int .i64 p0.E] rfl ?_
 intro b3 w4 hst
 refine OW.pure 1 [] (by kernel_rfl) ?_
 refine OW.nil rfl ?_
 refine QW.next ?_
 refine CW.seq ?_
 refine CW.seq ?_
 refine CW.region ?_
 refine OW.pure 1 [(8, .pointer (some ⟨b3, 0, none⟩))] (by kernel_rfl) ?_
 refine OW.ld rfl rfl rfl rfl (by kernel_rfl) (hst.blk 0 rfl rfl) ?_
 obtain ⟨r9, hr10, hF⟩ := bind_some' hF
 refine OW.fn rfl rfl rfl rfl (by kernel_rfl) (tappetref26_Name_ok _ p0.What r9 hr10 (hst.part [] rfl)) ?_
 rintro e w11 ⟨rfl, hst12⟩
 refine ⟨_, rfl, ?_⟩
 have hst := hst.join (idx := []) (rest := [0]) rfl hst12
 refine OW.pure 1 [(11, .bool (sEq r9 ByteArray.empty))] (by kernel_rfl) ?_
 refine OW.nil rfl ?_
 refine QW.next ?_
 rcases Bool.eq_false_or_eq_true (sEq r9 ByteArray.empty) with hc13 | hc13
 ·have hF := ite_t hF hc13
  refine CW.cond_t rfl hc13 ?_
  refine CW.seq ?_
  refine CW.region ?_
  refine OW.pure 1 [(2, .bool false)] (by kernel_rfl) ?_
  refine OW.nil rfl ?_
  refine QW.next ?_
  refine CW.ret ?_
  refine QW.then_ret ?_
  obtain rfl := Option.some.inj hF
  refine QW.ret1 rfl rfl ?_
  exact ⟨rfl, hst.keep [] rfl⟩
 ·have hF := ite_f hF hc13
  refine CW.cond_f rfl hc13 ?_
  refine CW.skip ?_
  refine QW.next ?_
  refine CW.seq ?_
  refine CW.region ?_
  refine OW.pure 1 [(12, .pointer (some ⟨b3, 0, none⟩))] (by kernel_rfl) ?_
  refine OW.ld rfl rfl rfl rfl (by kernel_rfl) (hst.blk 0 rfl rfl) ?_
  refine OW.pure 2 [(15, .pointer (some ⟨b3, 17, none⟩))] (by kernel_rfl) ?_
  refine OW.ld rfl rfl rfl rfl (by kernel_rfl) (hst.blk 0 rfl rfl) ?_
  obtain ⟨r18, hr19, hF⟩ := bind_some' hF
  refine OW.fn rfl rfl rfl rfl (by kernel_rfl) (tappetref26_fields_ok _ p0.What p0.Res.Out r18 hr19 (hst.part [] rfl)) ?_
  rintro e w20 ⟨rfl, hst21⟩
  refine ⟨_, rfl, ?_⟩
  have hst := hst.join (idx := []) (rest := [0]) rfl hst21
  refine OW.pure 1 [(3, .string r18)] (by kernel_rfl) ?_
  refine OW.nil rfl ?_
  refine QW.next ?_
  refine CW.seq ?_
  refine CW.region ?_
  refine OW.pure 1 [(4, .string (⟨[116, 102, 99, 103, 101, 104, 112, 118, 97, 120, 109, 111, 121, 98, 110, 107, 119, 114, 79, 86].toArray⟩))] (by kernel_rfl) ?_
  refine OW.nil rfl ?_
  refine QW.next ?_
  refine CW.seq ?_
  refine CW.seq ?_
  refine CW.region ?_
  refine OW.pure 1 [(5, .int .i64 0)] (by kernel_rfl) ?_
  refine OW.nil rfl ?_
  refine QW.next ?_
  obtain ⟨o222, ho223, hF⟩ := bind_some' hF
  refine CW.cutK (fun a w1 => ∃ (t224 : Unit), o222 = .inl t224 ∧ Rep 65 [(1, .pointer (some ⟨b3, 0, none⟩)), (3, .string r18)] a ∧ St w (fp []) w1 [itI R_t88 [.pointer (some ⟨b3, 0, none⟩)] ([b3]) p0]) ?_ ?_
  ·refine CW.block ?_
   have hst := hst.shutP0 (enc := enc_api_Entry) (sz := 22) (he := fun _ => rfl) 0 rfl p0 rfl
   obtain ⟨u359, hr360, ho223⟩ := bind_some' ho223
   refine CW.loop (fun n a w1 => ∃ (i357 : Nat) (s356 : Unit), i357 + n = (⟨[116, 102, 99, 103, 101, 104, 112, 118, 97, 120, 109, 111, 121, 98, 110, 107, 119, 114, 79, 86].toArray⟩ : ByteArray).size ∧ Rep 65 [(1, .pointer (some ⟨b3, 0, none⟩)), (3, .string r18), (4, .string (⟨[116, 102, 99, 103, 101, 104, 112, 118, 97, 120, 109, 111, 121, 98, 110, 107, 119, 114, 79, 86].toArray⟩)), (5, .int .i64 (i357 : Int))] a ∧ St w (fp []) w1 [itI R_t88 [.pointer (some ⟨b3, 0, none⟩)] ([b3]) p0] ∧ forN (tappetref26_Plain_l1 p0 r18) (fun (s356 : Unit) => (.inl ())) n i357 s356 = some o222) (⟨[116, 102, 99, 103, 101, 104, 112, 118, 97, 120, 109, 111, 121, 98, 110, 107, 119, 114, 79, 86].toArray⟩ : ByteArray).size (fun a ha => ⟨0, (), Nat.zero_add _, ha.agrees (by kernel_rfl), hst.keep [0] rfl, ho223⟩) ?_
   rintro n354 a w1 ⟨i357, s356, hi358, ha, hst, hl355⟩
   refine CW.go ?_ ha
   refine CW.seq ?_
   refine CW.seq ?_
   refine CW.region ?_
   refine OW.pure 4 [(21, .bool (decide ((i357 : Int) < ((⟨[116, 102, 99, 103, 101, 104, 112, 118, 97, 120, 109, 111, 121, 98, 110, 107, 119, 114, 79, 86].toArray⟩ : ByteArray).size : Int))))] (by kernel_rfl) ?_
   refine OW.nil rfl ?_
   refine QW.next ?_
   rcases Bool.eq_false_or_eq_true (decide ((i357 : Int) < ((⟨[116, 102, 99, 103, 101, 104, 112, 118, 97, 120, 109, 111, 121, 98, 110, 107, 119, 114, 79, 86].toArray⟩ : ByteArray).size : Int))) with hc361 | hc361
   ·rcases n354 with _ | n354
    ·exact (cnt0 hi358 hc361).elim
    refine CW.cond_t rfl hc361 ?_
    refine CW.skip ?_
    refine QW.next ?_
    refine CW.seq ?_
    refine CW.block ?_
    refine CW.seq ?_
    have hst := hst.openQ0 0 rfl
    refine CW.plan (by kernel_rfl) ?_
    intro w370 hch371
    have hst := hst.same hch371
    refine OA.ldN (i := 0) (cs := [.int .i64 p0.What, .int .i64 p0.Task, .int .i64 p0.From, .int .i64 p0.Cmd, .int .i64 p0.Tag, .int .i64 p0.Event, .int .i64 p0.Hook, .int .i64 p0.Prog, .int .i64 p0.Version, .int .i64 p0.Pc, .int .i64 p0.Item.Map, .int .i64 p0.Item.Op, .int .u64 p0.Item.Key, .int .u64 p0.Item.Val, .int .i64 p0.Res.E, .bool p0.Res.Found, .int .u64 p0.Res.Val, .bool p0.Res.Out, .int .u64 p0.Res.OutKey, .int .u64 p0.Res.OutVal, .int .u64 p0.Val, .int .i64 p0.E]) rfl (by kernel_rfl) rfl rfl rfl (by kernel_rfl) (by kernel_rfl) (hst.blkN 0 rfl 0 22) ?_
    refine OA.pure [1, 2] [(26, .string (⟨[116, 102, 99, 103, 101, 104, 112, 118, 97, 120, 109, 111, 121, 98, 110, 107, 119, 114, 79, 86].toArray⟩)), (27, .int .i64 (i357 : Int))] (by kernel_rfl) ?_
    obtain ⟨c372, hx373, hl355⟩ := bind_some' hl355
    refine OA.val (i := 3) (v := .int .u8 c372) rfl (by kernel_rfl) rfl rfl rfl rfl (fun a w ha => sidx_run rfl rfl rfl (by kernel_rfl) hx373 a w ha) ?_
    refine OA.act (i := 4) [] (by kernel_rfl) rfl rfl (by kernel_rfl) (by kernel_rfl) ?_
    obtain ⟨r374, hr375, hl355⟩ := bind_some' hl355
    refine OW.fn rfl rfl rfl rfl (by kernel_rfl) (tappetref26_unsigned_ok _ p0 c372 r374 hr375 (hst.part [] rfl)) ?_
    rintro e w376 ⟨rfl, hst377⟩
    refine ⟨_, rfl, ?_⟩
    have hst := hst.join (idx := []) (rest := [0]) rfl hst377
    refine OA.next trivial ?_
    refine OA.pure [5, 6, 7] [(30, .int .u64 r374.1), (31, .bool r374.2)] (by kernel_rfl) ?_
    refine OA.act (i := 8) [] (by kernel_rfl) rfl rfl (by kernel_rfl) (by kernel_rfl) ?_
    refine OW.pure 1 [(6, .int .u64 r374.1)] (by kernel_rfl) ?_
    refine OA.next trivial ?_
    refine OA.act (i := 9) [] (by kernel_rfl) rfl rfl (by kernel_rfl) (by kernel_rfl) ?_
    refine OW.pure 1 [(7, .bool r374.2)] (by kernel_rfl) ?_
    refine OA.next trivial ?_
    refine OA.fin (by kernel_rfl) (by kernel_rfl) ?_
    refine QW.next ?_
    refine CW.seq ?_
    obtain ⟨o403, ho404, hl355⟩ := bind_some' hl355
    refine CW.cutK (fun a w1 => Rep 65 [(1, .pointer (some ⟨b3, 0, none⟩)), (3, .string r18), (4, .string (⟨[116, 102, 99, 103, 101, 104, 112, 118, 97, 120, 109, 111, 121, 98, 110, 107, 119, 114, 79, 86].toArray⟩)), (5, .int .i64 (i357 : Int)), (56, .bool o403)] a ∧ St w (fp []) w1 [itI R_t88 [.pointer (some ⟨b3, 0, none⟩)] ([b3]) p0]) ?_ ?_
    ·refine CW.plan (by kernel_rfl) ?_
     intro w405 hch406
     have hst := hst.same hch406
     refine OA.pure [0, 1, 2] [(32, .string r18), (33, .string (⟨[116, 102, 99, 103, 101, 104, 112, 118, 97, 120, 109, 111, 121, 98, 110, 107, 119, 114, 79, 86].toArray⟩)), (34, .int .i64 (i357 : Int))] (by kernel_rfl) ?_
     refine OA.val (i := 3) (v := .int .u8 c372) rfl (by kernel_rfl) rfl rfl rfl rfl (fun a w ha => sidx_run rfl rfl rfl (by kernel_rfl) hx373 a w ha) ?_
     refine OA.act (i := 4) [] (by kernel_rfl) rfl rfl (by kernel_rfl) (by kernel_rfl) ?_
     obtain ⟨r407, hr408, ho404⟩ := bind_some' ho404
     refine OW.fn rfl rfl rfl rfl (by kernel_rfl) (tappetref26_has_ok _ r18 c372 r407 hr408 (hst.part [] rfl)) ?_
     rintro e w409 ⟨rfl, hst410⟩
     refine ⟨_, rfl, ?_⟩
     have hst := hst.join (idx := []) (rest := [0]) rfl hst410
     refine OA.next trivial ?_
     refine OA.pure [5, 6] [(38, .bool (!r407))] (by kernel_rfl) ?_
     refine OA.split 38 rfl (fun hc411 => ?_) (fun hc411 => ?_)
     ·have ho404 := ite_t ho404 hc411
      refine OA.pure [7, 8] [(40, .bool r374.2)] (by kernel_rfl) ?_
      refine OA.split 40 rfl (fun hc412 => ?_) (fun hc412 => ?_)
      ·have ho404 := ite_t ho404 hc412
       refine OA.pure [9, 10, 11, 12] [(44, .bool (r374.1 != 0))] (by kernel_rfl) ?_
       refine OA.split 44 rfl (fun hc413 => ?_) (fun hc413 => ?_)
       ·have ho404 := ite_t ho404 hc413
        refine OA.pure [13, 14, 15, 16, 17, 18, 19, 20, 21, 22, 23, 24] [(56, .bool true)] (by kernel_rfl) ?_
        refine OA.fin (by kernel_rfl) (by kernel_rfl) ?_
        have hst := hst.shutP0 (enc := enc_api_Entry) (sz := 22) (he := fun _ => rfl) 0 rfl p0 rfl
        obtain rfl := Option.some.inj ho404
        exact QW.meet (fun a ha => ⟨ha.agrees (by kernel_rfl), hst.keep [0] rfl⟩)
       ·have ho404 := ite_f ho404 hc413
        refine OA.pure [13, 14, 15] [(47, .bool (!r374.2))] (by kernel_rfl) ?_
        refine OA.split 47 rfl (fun hc414 => ?_) (fun hc414 => ?_)
        ·have ho404 := ite_t ho404 hc414
         refine OA.ldN (i := 16) (cs := [.int .i64 p0.What, .int .i64 p0.Task, .int .i64 p0.From, .int .i64 p0.Cmd, .int .i64 p0.Tag, .int .i64 p0.Event, .int .i64 p0.Hook, .int .i64 p0.Prog, .int .i64 p0.Version, .int .i64 p0.Pc, .int .i64 p0.Item.Map, .int .i64 p0.Item.Op, .int .u64 p0.Item.Key, .int .u64 p0.Item.Val, .int .i64 p0.Res.E, .bool p0.Res.Found, .int .u64 p0.Res.Val, .bool p0.Res.Out, .int .u64 p0.Res.OutKey, .int .u64 p0.Res.OutVal, .int .u64 p0.Val, .int .i64 p0.E]) rfl (by kernel_rfl) rfl rfl rfl (by kernel_rfl) (by kernel_rfl) (hst.blkN 0 rfl 0 22) ?_
         refine OA.pure [17, 18] [(49, .string (⟨[116, 102, 99, 103, 101, 104, 112, 118, 97, 120, 109, 111, 121, 98, 110, 107, 119, 114, 79, 86].toArray⟩)), (50, .int .i64 (i357 : Int))] (by kernel_rfl) ?_
         refine OA.val (i := 19) (v := .int .u8 c372) rfl (by kernel_rfl) rfl rfl rfl rfl (fun a w ha => sidx_run rfl rfl rfl (by kernel_rfl) hx373 a w ha) ?_
         refine OA.act (i := 20) [] (by kernel_rfl) rfl rfl (by kernel_rfl) (by kernel_rfl) ?_
         obtain ⟨r415, hr416, ho404⟩ := bind_some' ho404
         refine OW.fn rfl rfl rfl rfl (by kernel_rfl) (tappetref26_signed_ok _ p0 c372 r415 hr416 (hst.part [] rfl)) ?_
         rintro e w417 ⟨rfl, hst418⟩
         refine ⟨_, rfl, ?_⟩
         have hst := hst.join (idx := []) (rest := [0]) rfl hst418
         refine OA.next trivial ?_
         refine OA.pure [21, 22, 23, 24] [(56, .bool (r415 != 0))] (by kernel_rfl) ?_
         refine OA.fin (by kernel_rfl) (by kernel_rfl) ?_
         have hst := hst.shutP0 (enc := enc_api_Entry) (sz := 22) (he := fun _ => rfl) 0 rfl p0 rfl
         obtain rfl := Option.some.inj ho404
         exact QW.meet (fun a ha => ⟨ha.agrees (by kernel_rfl), hst.keep [0] rfl⟩)
        ·have ho404 := ite_f ho404 hc414
         refine OA.pure [16, 17, 18, 19, 20, 21, 22, 23, 24] [(56, .bool false)] (by kernel_rfl) ?_
         refine OA.fin (by kernel_rfl) (by kernel_rfl) ?_
         have hst := hst.shutP0 (enc := enc_api_Entry) (sz := 22) (he := fun _ => rfl) 0 rfl p0 rfl
         obtain rfl := Option.some.inj ho404
         exact QW.meet (fun a ha => ⟨ha.agrees (by kernel_rfl), hst.keep [0] rfl⟩)
      ·have ho404 := ite_f ho404 hc412
       refine OA.pure [9, 10, 11, 12, 13, 14, 15] [(44, .bool false), (47, .bool (!r374.2))] (by kernel_rfl) ?_
       refine OA.split 47 rfl (fun hc419 => ?_) (fun hc419 => ?_)
       ·have ho404 := ite_t ho404 hc419
        refine OA.ldN (i := 16) (cs := [.int .i64 p0.What, .int .i64 p0.Task, .int .i64 p0.From, .int .i64 p0.Cmd, .int .i64 p0.Tag, .int .i64 p0.Event, .int .i64 p0.Hook, .int .i64 p0.Prog, .int .i64 p0.Version, .int .i64 p0.Pc, .int .i64 p0.Item.Map, .int .i64 p0.Item.Op, .int .u64 p0.Item.Key, .int .u64 p0.Item.Val, .int .i64 p0.Res.E, .bool p0.Res.Found, .int .u64 p0.Res.Val, .bool p0.Res.Out, .int .u64 p0.Res.OutKey, .int .u64 p0.Res.OutVal, .int .u64 p0.Val, .int .i64 p0.E]) rfl (by kernel_rfl) rfl rfl rfl (by kernel_rfl) (by kernel_rfl) (hst.blkN 0 rfl 0 22) ?_
        refine OA.pure [17, 18] [(49, .string (⟨[116, 102, 99, 103, 101, 104, 112, 118, 97, 120, 109, 111, 121, 98, 110, 107, 119, 114, 79, 86].toArray⟩)), (50, .int .i64 (i357 : Int))] (by kernel_rfl) ?_
        refine OA.val (i := 19) (v := .int .u8 c372) rfl (by kernel_rfl) rfl rfl rfl rfl (fun a w ha => sidx_run rfl rfl rfl (by kernel_rfl) hx373 a w ha) ?_
        refine OA.act (i := 20) [] (by kernel_rfl) rfl rfl (by kernel_rfl) (by kernel_rfl) ?_
        obtain ⟨r420, hr421, ho404⟩ := bind_some' ho404
        refine OW.fn rfl rfl rfl rfl (by kernel_rfl) (tappetref26_signed_ok _ p0 c372 r420 hr421 (hst.part [] rfl)) ?_
        rintro e w422 ⟨rfl, hst423⟩
        refine ⟨_, rfl, ?_⟩
        have hst := hst.join (idx := []) (rest := [0]) rfl hst423
        refine OA.next trivial ?_
        refine OA.pure [21, 22, 23, 24] [(56, .bool (r420 != 0))] (by kernel_rfl) ?_
        refine OA.fin (by kernel_rfl) (by kernel_rfl) ?_
        have hst := hst.shutP0 (enc := enc_api_Entry) (sz := 22) (he := fun _ => rfl) 0 rfl p0 rfl
        obtain rfl := Option.some.inj ho404
        exact QW.meet (fun a ha => ⟨ha.agrees (by kernel_rfl), hst.keep [0] rfl⟩)
       ·have ho404 := ite_f ho404 hc419
        refine OA.pure [16, 17, 18, 19, 20, 21, 22, 23, 24] [(56, .bool false)] (by kernel_rfl) ?_
        refine OA.fin (by kernel_rfl) (by kernel_rfl) ?_
        have hst := hst.shutP0 (enc := enc_api_Entry) (sz := 22) (he := fun _ => rfl) 0 rfl p0 rfl
        obtain rfl := Option.some.inj ho404
        exact QW.meet (fun a ha => ⟨ha.agrees (by kernel_rfl), hst.keep [0] rfl⟩)
     ·have ho404 := ite_f ho404 hc411
      refine OA.pure [7, 8, 9, 10, 11, 12, 13, 14, 15, 16, 17, 18, 19, 20, 21, 22, 23, 24] [(56, .bool false)] (by kernel_rfl) ?_
      refine OA.fin (by kernel_rfl) (by kernel_rfl) ?_
      have hst := hst.shutP0 (enc := enc_api_Entry) (sz := 22) (he := fun _ => rfl) 0 rfl p0 rfl
      obtain rfl := Option.some.inj ho404
      exact QW.meet (fun a ha => ⟨ha.agrees (by kernel_rfl), hst.keep [0] rfl⟩)
    ·rintro a w1 ⟨ha, hst⟩
     refine CW.go ?_ ha
     rcases Bool.eq_false_or_eq_true (o403) with hc424 | hc424
     ·have hl355 := ite_t hl355 hc424
      refine CW.cond_t rfl hc424 ?_
      refine CW.seq ?_
      refine CW.region ?_
      refine OW.pure 1 [(2, .bool false)] (by kernel_rfl) ?_
      refine OW.nil rfl ?_
      refine QW.next ?_
      refine CW.ret ?_
      refine QW.block_ret ?_
      refine QW.then_ret ?_
      refine QW.then_ret ?_
      refine QW.block_ret ?_
      refine QW.then_ret ?_
      obtain rfl := Option.some.inj hl355
      obtain rfl := Option.some.inj hF
      refine QW.ret1 rfl rfl ?_
      exact ⟨rfl, hst.keep [] rfl⟩
     ·have hl355 := ite_f hl355 hc424
      refine CW.cond_f rfl hc424 ?_
      refine CW.skip ?_
      refine QW.block_normal ?_
      refine QW.next ?_
      refine CW.region ?_
      refine OW.pure 3 [(5, .int .i64 (w64 ((i357 : Int) + 1)))] (by kernel_rfl) ?_
      refine OW.nil rfl ?_
      refine QW.say 5 rfl (congrArg (Value.int .i64) (w64_cnt hc361 (room_sz hr360))) ?_
      exact QW.meet (fun a ha => ⟨n354, Nat.lt_succ_self _, i357 + 1, (), cnt_next hi358, ha.agrees (by kernel_rfl), hst.keep [0] rfl, hl355⟩)
   ·rcases n354 with _ | n354
    ·refine CW.cond_f rfl hc361 ?_
     refine CW.exit ?_
     refine QW.then_exit ?_
     refine QW.then_exit ?_
     refine QW.block_here ?_
     obtain rfl := Option.some.inj hl355
     exact QW.meet (fun a ha => ⟨(), rfl, ha.agrees (by kernel_rfl), hst.keep [0] rfl⟩)
    ·exact (cnt1 hi358 hc361).elim
  ·rintro a w1 ⟨t224, rfl, ha, hst⟩
   refine CW.go ?_ ha
   refine CW.seq ?_
   have hst := hst.openQ0 0 rfl
   obtain ⟨o430, ho431, hF⟩ := bind_some' hF
   refine CW.cutK (fun a w1 => Rep 65 [(2, .bool o430)] a ∧ St w (fp []) w1 []) ?_ ?_
   ·refine CW.region ?_
    refine OW.pure 2 [(58, .pointer (some ⟨b3, 17, none⟩))] (by kernel_rfl) ?_
    refine OW.ld rfl rfl rfl rfl (by kernel_rfl) (hst.blk 0 rfl rfl) ?_
    refine OW.pure 2 [(61, .bool (!p0.Res.Out))] (by kernel_rfl) ?_
    refine OW.split 61 rfl (fun hc432 => ?_) (fun hc432 => ?_)
    ·have ho431 := ite_t ho431 hc432
     refine OW.pure 4 [(2, .bool true)] (by kernel_rfl) ?_
     refine OW.nil rfl ?_
     have hst := hst.shutP0 (enc := enc_api_Entry) (sz := 22) (he := fun _ => rfl) 0 rfl p0 rfl
     obtain rfl := Option.some.inj ho431
     exact QW.meet (fun a ha => ⟨ha.agrees (by kernel_rfl), hst.keep [] rfl⟩)
    ·have ho431 := ite_f ho431 hc432
     refine OW.pure 1 [(62, .string r18)] (by kernel_rfl) ?_
     obtain ⟨r433, hr434, ho431⟩ := bind_some' ho431
     refine OW.fn rfl rfl rfl rfl (by kernel_rfl) (tappetref26_has_ok _ r18 121 r433 hr434 (hst.part [] rfl)) ?_
     rintro e w435 ⟨rfl, hst436⟩
     refine ⟨_, rfl, ?_⟩
     have hst := hst.join (idx := []) (rest := [0]) rfl hst436
     refine OW.pure 2 [(2, .bool r433)] (by kernel_rfl) ?_
     refine OW.nil rfl ?_
     have hst := hst.shutP0 (enc := enc_api_Entry) (sz := 22) (he := fun _ => rfl) 0 rfl p0 rfl
     obtain rfl := Option.some.inj ho431
     exact QW.meet (fun a ha => ⟨ha.agrees (by kernel_rfl), hst.keep [] rfl⟩)
   ·rintro a w1 ⟨ha, hst⟩
    refine CW.go ?_ ha
    refine CW.ret ?_
    obtain rfl := Option.some.inj hF
    refine QW.ret1 rfl rfl ?_
    exact ⟨rfl, hst.keep [] rfl⟩

set_option maxRecDepth 10000 in
set_option maxHeartbeats 4000000 in
theorem tappetref26_Print_ok (w : World) (fu : Nat) (v0 : Value) (p0 : List api_Entry) (r : ByteArray × Int) (hF : tappetref26_Print fu p0 = some r)
    (hst : St w (fp []) w []) (h0 : Rd w (fp []) v0 enc_api_Entry 22 p0) :
    Calls Tryd.prog 17 [v0].toArray w (fun e w' => e = .returned (.tuple #[.string r.1, .int .i64 r.2]) ∧ St w (fp []) w' []) := by
 refine CW.start (N := 30) Tryd.func17 rfl rfl rfl ?_
 obtain ⟨l1, a2, c3, rfl⟩ := h0.len
 refine CW.seq ?_
 refine CW.region ?_
 refine OW.pure 2 [] (by kernel_rfl) ?_
 refine OW.nil rfl ?_
 refine QW.next ?_
 refine CW.seq ?_
 refine CW.region ?_
 refine OW.pure 1 [(4, .slice none 0 0)] (by kernel_rfl) ?_
 refine OW.nil rfl ?_
 refine QW.next ?_
 refine CW.seq ?_
 refine CW.seq ?_
 refine CW.region ?_
 refine OW.pure 1 [(5, .int .i64 0)] (by kernel_rfl) ?_
 refine OW.nil rfl ?_
 refine QW.next ?_
 obtain ⟨o234, ho235, hF⟩ := bind_some' hF
 refine CW.cutK (fun a w1 => ∃ (t236 : (List Int)) (v233 : Value), o234 = .inl t236 ∧ Rep 30 [(4, v233)] a ∧ St w (fp []) w1 [rowI v233 5 (encInt .u8) 1 t236]) ?_ ?_
 ·refine CW.block ?_
  have hst := hst.nilRow Int 5 (encInt .u8) 1
  refine CW.loop (fun n a w1 => ∃ (i391 : Nat) (s389 : (List Int)) (v390 : Value), i391 + n = (p0).length ∧ Rep 30 [(0, .slice a2 (p0).length c3), (4, v390), (5, .int .i64 (i391 : Int))] a ∧ St w (fp []) w1 [rowI v390 5 (encInt .u8) 1 s389] ∧ forN (tappetref26_Print_l1 fu p0) (fun (s389 : (List Int)) => (.inl s389)) n i391 s389 = some o234) (p0).length (fun a ha => ⟨0, ([] : List Int), (.slice none 0 0), Nat.zero_add _, ha.agrees (by kernel_rfl), hst.keep [0] rfl, ho235⟩) ?_
  rintro n387 a w1 ⟨i391, s389, v390, hi392, ha, hst, hl388⟩
  refine CW.go ?_ ha
  obtain ⟨l393, a394, c395, rfl⟩ := hst.len 0 rfl
  refine CW.seq ?_
  refine CW.seq ?_
  refine CW.region ?_
  refine OW.pure 4 [(9, .bool (decide ((i391 : Int) < ((p0).length : Int))))] (by kernel_rfl) ?_
  refine OW.nil rfl ?_
  refine QW.next ?_
  rcases Bool.eq_false_or_eq_true (decide ((i391 : Int) < ((p0).length : Int))) with hc396 | hc396
  ·rcases n387 with _ | n387
   ·exact (cnt0 hi392 hc396).elim
   refine CW.cond_t rfl hc396 ?_
   refine CW.skip ?_
   refine QW.next ?_
   refine CW.seq ?_
   refine CW.block ?_
   refine CW.seq ?_
   refine CW.seq ?_
   refine CW.region ?_
   refine OW.pure 2 [(12, .slice a2 (p0).length c3), (13, .int .i64 (i391 : Int))] (by kernel_rfl) ?_
   obtain ⟨x407, hx408, hl388⟩ := bind_some' hl388
   obtain ⟨g410, o411, c412, hv409⟩ := h0.formv (fun _ => ⟨_, rfl⟩) hx408
   refine OW.idx 46 22 rfl rfl rfl rfl hv409 rfl (idx_some hx408).1 (idx_some hx408).2.1 (by kernel_rfl) (by kernel_rfl) ?_
   refine OW.ldN (cs := enc_api_Entry x407) rfl rfl rfl rfl (by kernel_rfl) (by kernel_rfl) (h0.cellv hst hx408 hv409) ?_
   obtain ⟨r413, hr414, hl388⟩ := bind_some' hl388
   refine OW.fn rfl rfl rfl rfl (by kernel_rfl) (tappetref26_Plain_ok _ x407 r413 hr414 (hst.part [] rfl)) ?_
   rintro e w415 ⟨rfl, hst416⟩
   refine ⟨_, rfl, ?_⟩
   have hst := hst.join (idx := []) (rest := [0]) rfl hst416
   refine OW.pure 1 [(17, .bool (!r413))] (by kernel_rfl) ?_
   refine OW.nil rfl ?_
   refine QW.next ?_
   rcases Bool.eq_false_or_eq_true ((!r413)) with hc417 | hc417
   ·have hl388 := ite_t hl388 hc417
    refine CW.cond_t rfl hc417 ?_
    refine CW.seq ?_
    refine CW.region ?_
    refine OW.pure 2 [(2, .string ByteArray.empty), (3, .int .i64 12)] (by kernel_rfl) ?_
    refine OW.nil rfl ?_
    refine QW.next ?_
    refine CW.ret ?_
    refine QW.then_ret ?_
    refine QW.block_ret ?_
    refine QW.then_ret ?_
    refine QW.then_ret ?_
    refine QW.block_ret ?_
    refine QW.then_ret ?_
    obtain rfl := Option.some.inj hl388
    obtain rfl := Option.some.inj hF
    refine QW.ret2 rfl rfl rfl ?_
    exact ⟨rfl, hst.keep [] rfl⟩
   ·have hl388 := ite_f hl388 hc417
    refine CW.cond_f rfl hc417 ?_
    refine CW.skip ?_
    refine QW.next ?_
    refine CW.seq ?_
    refine CW.region ?_
    refine OW.pure 3 [(18, .slice a394 (s389).length c395), (19, .slice a2 (p0).length c3), (20, .int .i64 (i391 : Int))] (by kernel_rfl) ?_
    obtain ⟨g434, o435, c436, hv433⟩ := h0.formv (fun _ => ⟨_, rfl⟩) hx408
    refine OW.idx 46 22 rfl rfl rfl rfl hv433 rfl (idx_some hx408).1 (idx_some hx408).2.1 (by kernel_rfl) (by kernel_rfl) ?_
    refine OW.ldN (cs := enc_api_Entry x407) rfl rfl rfl rfl (by kernel_rfl) (by kernel_rfl) (h0.cellv hst hx408 hv433) ?_
    obtain ⟨r437, hr438, hl388⟩ := bind_some' hl388
    refine OW.fn rfl rfl rfl rfl (by kernel_rfl) (tappetref26_Line_ok _ fu x407 r437 hr438 (hst.part [] rfl)) ?_
    rintro e w439 ⟨rfl, hst440⟩
    refine ⟨_, rfl, ?_⟩
    have hst := hst.join (idx := []) (rest := [0]) rfl hst440
    obtain ⟨u441, hr442, hl388⟩ := bind_some' hl388
    refine OW.appS hst 0 rfl rfl rfl rfl rfl rfl rfl (by kernel_rfl) (by kernel_rfl) el5 (room_le hr442) ?_
    intro v443 w444 hst
    obtain ⟨l445, a446, c447, rfl⟩ := hst.len 0 rfl
    refine OW.pure 1 [(4, .slice a446 ((s389 ++ bytesOf r437)).length c447)] (by kernel_rfl) ?_
    refine OW.nil rfl ?_
    refine QW.next ?_
    refine CW.region ?_
    refine OW.pure 1 [(25, .slice a446 ((s389 ++ bytesOf r437)).length c447)] (by kernel_rfl) ?_
    refine OW.row (α := Int) (e := 5) (enc := encInt .u8) (sz := 1) hst rfl rfl rfl [10] rfl (fun _ => rfl) rfl rfl (fun _ => by kernel_rfl) ?_
    intro g457 w458 hst
    obtain ⟨u459, hr460, hl388⟩ := bind_some' hl388
    refine OW.app hst 0 rfl (fun _ => rfl) (fun _ => rfl) rfl rfl rfl rfl rfl rfl (by kernel_rfl) el5 (hst.rd 1 rfl (fun _ => rfl) [] rfl (hst.len 1 rfl).1) (room_le hr460) ?_
    intro v461 w462 hst
    obtain ⟨l463, a464, c465, rfl⟩ := hst.len 0 rfl
    refine OW.pure 1 [(4, .slice a464 (((s389 ++ bytesOf r437) ++ ([10] : List Int))).length c465)] (by kernel_rfl) ?_
    refine OW.nil rfl ?_
    refine QW.block_normal ?_
    refine QW.next ?_
    refine CW.region ?_
    refine OW.pure 3 [(5, .int .i64 (w64 ((i391 : Int) + 1)))] (by kernel_rfl) ?_
    refine OW.nil rfl ?_
    refine QW.say 5 rfl (congrArg (Value.int .i64) (w64_cnt hc396 l1)) ?_
    exact QW.meet (fun a ha => ⟨n387, Nat.lt_succ_self _, i391 + 1, ((s389 ++ bytesOf r437) ++ ([10] : List Int)), (.slice a464 (((s389 ++ bytesOf r437) ++ ([10] : List Int))).length c465), cnt_next hi392, ha.agrees (by kernel_rfl), hst.keep [0] rfl, hl388⟩)
  ·rcases n387 with _ | n387
   ·refine CW.cond_f rfl hc396 ?_
    refine CW.exit ?_
    refine QW.then_exit ?_
    refine QW.then_exit ?_
    refine QW.block_here ?_
    obtain rfl := Option.some.inj hl388
    exact QW.meet (fun a ha => ⟨s389, (.slice a394 (s389).length c395), rfl, ha.agrees (by kernel_rfl), hst.keep [0] rfl⟩)
   ·exact (cnt1 hi392 hc396).elim
 ·rintro a w1 ⟨t236, v233, rfl, ha, hst⟩
  refine CW.go ?_ ha
  obtain ⟨l468, a469, c470, rfl⟩ := hst.len 0 rfl
  refine CW.seq ?_
  refine CW.region ?_
  refine OW.pure 1 [(28, .slice a469 (t236).length c470)] (by kernel_rfl) ?_
  refine OW.toStr (e := 5) rfl rfl rfl rfl (by kernel_rfl) (by kernel_rfl) (by kernel_rfl) (hst.rd 0 rfl (fun _ => rfl) [] rfl (hst.len 0 rfl).1) ?_
  refine OW.pure 2 [(2, .string (strOfNums t236)), (3, .int .i64 0)] (by kernel_rfl) ?_
  refine OW.nil rfl ?_
  refine QW.next ?_
  refine CW.ret ?_
  obtain rfl := Option.some.inj hF
  refine QW.ret2 rfl rfl rfl ?_
  exact ⟨rfl, hst.keep [] rfl⟩

set_option maxRecDepth 10000 in
set_option maxHeartbeats 4000000 in
theorem tappetlaw26_TracePrints_ok (w : World) (fu : Nat) (v0 : Value) (p0 : List api_Entry) (p1 : Int) (r : Bool) (hF : tappetlaw26_TracePrints fu p0 p1 = some r)
    (hst : St w (fp []) w []) (h0 : Rd w (fp []) v0 enc_api_Entry 22 p0) (hT0 : Rd w (fp []) (.slice (some ⟨0, 0, none⟩) 18 18) enc_trace_form 2 tab_g0) (hTL : LibG Tryd.prog 4 1 2 3 w (fp [])) :
    Calls Tryd.prog 5 [v0, .int .i64 p1].toArray w (fun e w' => e = .returned (.bool r) ∧ St w (fp []) w' []) := by
 refine CW.start (N := 124) Tryd.func5 rfl rfl rfl ?_
 obtain ⟨l1, a2, c3, rfl⟩ := h0.len
 refine CW.seq ?_
 refine CW.region ?_
 refine OW.pure 1 [] (by kernel_rfl) ?_
 refine OW.nil rfl ?_
 refine QW.next ?_
 refine CW.seq ?_
 refine CW.seq ?_
 obtain ⟨o21, ho22, hF⟩ := bind_some' hF
 refine CW.cutK (fun a w1 => Rep 124 [(0, .slice a2 (p0).length c3), (25, .bool o21)] a ∧ St w (fp []) w1 []) ?_ ?_
 ·refine CW.region ?_
  obtain ⟨r23, hr24, ho22⟩ := bind_some' ho22
  refine OW.fn rfl rfl rfl rfl (by kernel_rfl) (tappetlaw26_awake_ok _ fu r23 hr24 (hst.part [] rfl) (hT0.give hst []) (hTL.give hst [])) ?_
  rintro e w25 ⟨rfl, hst26⟩
  refine ⟨_, rfl, ?_⟩
  have hst := hst.join (idx := []) (rest := []) rfl hst26
  refine OW.pure 2 [(19, .bool (!r23))] (by kernel_rfl) ?_
  refine OW.split 19 rfl (fun hc27 => ?_) (fun hc27 => ?_)
  ·have ho22 := ite_t ho22 hc27
   refine OW.pure 6 [(25, .bool true)] (by kernel_rfl) ?_
   refine OW.nil rfl ?_
   obtain rfl := Option.some.inj ho22
   exact QW.meet (fun a ha => ⟨ha.agrees (by kernel_rfl), hst.keep [] rfl⟩)
  ·have ho22 := ite_f ho22 hc27
   refine OW.pure 1 [(20, .int .i64 p1)] (by kernel_rfl) ?_
   obtain ⟨r28, hr29, ho22⟩ := bind_some' ho22
   refine OW.fn rfl rfl rfl rfl (by kernel_rfl) (trace_Name_ok _ p1 r28 hr29 (hst.part [] rfl) (hT0.give hst [])) ?_
   rintro e w30 ⟨rfl, hst31⟩
   refine ⟨_, rfl, ?_⟩
   have hst := hst.join (idx := []) (rest := []) rfl hst31
   refine OW.pure 1 [(22, .int .i64 p1)] (by kernel_rfl) ?_
   obtain ⟨r32, hr33, ho22⟩ := bind_some' ho22
   refine OW.fn rfl rfl rfl rfl (by kernel_rfl) (tappetref26_Name_ok _ p1 r32 hr33 (hst.part [] rfl)) ?_
   rintro e w34 ⟨rfl, hst35⟩
   refine ⟨_, rfl, ?_⟩
   have hst := hst.join (idx := []) (rest := []) rfl hst35
   refine OW.pure 2 [(25, .bool (sNe r28 r32))] (by kernel_rfl) ?_
   refine OW.nil rfl ?_
   obtain rfl := Option.some.inj ho22
   exact QW.meet (fun a ha => ⟨ha.agrees (by kernel_rfl), hst.keep [] rfl⟩)
 ·rintro a w1 ⟨ha, hst⟩
  refine CW.go ?_ ha
  rcases Bool.eq_false_or_eq_true (o21) with hc36 | hc36
  ·have hF := ite_t hF hc36
   refine CW.cond_t rfl hc36 ?_
   refine CW.seq ?_
   refine CW.region ?_
   refine OW.pure 1 [(4, .bool false)] (by kernel_rfl) ?_
   refine OW.nil rfl ?_
   refine QW.next ?_
   refine CW.ret ?_
   refine QW.then_ret ?_
   obtain rfl := Option.some.inj hF
   refine QW.ret1 rfl rfl ?_
   exact ⟨rfl, hst.keep [] rfl⟩
  ·have hF := ite_f hF hc36
   refine CW.cond_f rfl hc36 ?_
   refine CW.skip ?_
   refine QW.next ?_
   refine CW.seq ?_
   refine CW.region ?_
   refine OW.row (α := api_Entry) (e := 46) (enc := enc_api_Entry) (sz := 22) hst rfl rfl rfl [] rfl (fun _ => rfl) rfl rfl (fun _ => by kernel_rfl) ?_
   intro g46 w47 hst
   refine OW.pure 1 [(27, .slice a2 (p0).length c3)] (by kernel_rfl) ?_
   obtain ⟨u48, hr49, hF⟩ := bind_some' hF
   refine OW.app hst 0 rfl (fun _ => rfl) (fun _ => rfl) rfl rfl rfl rfl rfl rfl (by kernel_rfl) el46 (h0.on hst) (room_le hr49) ?_
   intro v50 w51 hst
   obtain ⟨l52, a53, c54, rfl⟩ := hst.len 0 rfl
   refine OW.pure 1 [(5, .slice a53 ((([] : List api_Entry) ++ p0)).length c54)] (by kernel_rfl) ?_
   refine OW.nil rfl ?_
   refine QW.next ?_
   refine CW.seq ?_
   refine CW.region ?_
   refine OW.pure 1 [(6, .bool true)] (by kernel_rfl) ?_
   refine OW.nil rfl ?_
   refine QW.next ?_
   refine CW.seq ?_
   refine CW.seq ?_
   refine CW.region ?_
   refine OW.pure 1 [(7, .int .i64 0)] (by kernel_rfl) ?_
   refine OW.nil rfl ?_
   refine QW.next ?_
   obtain ⟨o459, ho460, hF⟩ := bind_some' hF
   refine CW.cutK (fun a w1 => ∃ (t461 : Bool), o459 = .inl t461 ∧ Rep 124 [(0, .slice a2 (p0).length c3), (5, .slice a53 ((([] : List api_Entry) ++ p0)).length c54), (6, .bool t461)] a ∧ St w (fp []) w1 [rowI (.slice a53 ((([] : List api_Entry) ++ p0)).length c54) 46 enc_api_Entry 22 (([] : List api_Entry) ++ p0)]) ?_ ?_
   ·refine CW.block ?_
    refine CW.loop (fun n a w1 => ∃ (i731 : Nat) (s730 : Bool), i731 + n = (p0).length ∧ Rep 124 [(0, .slice a2 (p0).length c3), (5, .slice a53 ((([] : List api_Entry) ++ p0)).length c54), (6, .bool s730), (7, .int .i64 (i731 : Int))] a ∧ St w (fp []) w1 [rowI (.slice a53 ((([] : List api_Entry) ++ p0)).length c54) 46 enc_api_Entry 22 (([] : List api_Entry) ++ p0)] ∧ forN (tappetlaw26_TracePrints_l1 fu p0) (fun (s730 : Bool) => (.inl s730)) n i731 s730 = some o459) (p0).length (fun a ha => ⟨0, true, Nat.zero_add _, ha.agrees (by kernel_rfl), hst.keep [0] rfl, ho460⟩) ?_
    rintro n728 a w1 ⟨i731, s730, hi732, ha, hst, hl729⟩
    refine CW.go ?_ ha
    refine CW.seq ?_
    refine CW.seq ?_
    refine CW.region ?_
    refine OW.pure 4 [(32, .bool (decide ((i731 : Int) < ((p0).length : Int))))] (by kernel_rfl) ?_
    refine OW.nil rfl ?_
    refine QW.next ?_
    rcases Bool.eq_false_or_eq_true (decide ((i731 : Int) < ((p0).length : Int))) with hc733 | hc733
    ·rcases n728 with _ | n728
     ·exact (cnt0 hi732 hc733).elim
     refine CW.cond_t rfl hc733 ?_
     refine CW.skip ?_
     refine QW.next ?_
     refine CW.seq ?_
     refine CW.block ?_
     refine CW.seq ?_
     refine CW.region ?_
     refine OW.pure 2 [(35, .slice a2 (p0).length c3), (36, .int .i64 (i731 : Int))] (by kernel_rfl) ?_
     obtain ⟨x744, hx745, hl729⟩ := bind_some' hl729
     obtain ⟨g747, o748, c749, hv746⟩ := h0.formv (fun _ => ⟨_, rfl⟩) hx745
     refine OW.idx 46 22 rfl rfl rfl rfl hv746 rfl (idx_some hx745).1 (idx_some hx745).2.1 (by kernel_rfl) (by kernel_rfl) ?_
     refine OW.ldN (cs := enc_api_Entry x744) rfl rfl rfl rfl (by kernel_rfl) (by kernel_rfl) (h0.cellv hst hx745 hv746) ?_
     obtain ⟨r750, hr751, hl729⟩ := bind_some' hl729
     refine OW.fn rfl rfl rfl rfl (by kernel_rfl) (tappetref26_Plain_ok _ x744 r750 hr751 (hst.part [] rfl)) ?_
     rintro e w752 ⟨rfl, hst753⟩
     refine ⟨_, rfl, ?_⟩
     have hst := hst.join (idx := []) (rest := [0]) rfl hst753
     refine OW.pure 1 [(8, .bool r750)] (by kernel_rfl) ?_
     refine OW.nil rfl ?_
     refine QW.next ?_
     refine CW.seq ?_
     refine CW.cutK (fun a w1 => Rep 124 [(0, .slice a2 (p0).length c3), (5, .slice a53 ((([] : List api_Entry) ++ p0)).length c54), (6, .bool (s730 && r750)), (7, .int .i64 (i731 : Int)), (8, .bool r750)] a ∧ St w (fp []) w1 [rowI (.slice a53 ((([] : List api_Entry) ++ p0)).length c54) 46 enc_api_Entry 22 (([] : List api_Entry) ++ p0)]) ?_ ?_
     ·refine CW.region ?_
      refine OW.pure 2 [(41, .bool s730)] (by kernel_rfl) ?_
      refine OW.split 41 rfl (fun hc754 => ?_) (fun hc754 => ?_)
      ·refine OW.pure 3 [(6, .bool r750)] (by kernel_rfl) ?_
       refine OW.nil rfl ?_
       refine QW.say 6 (v := .bool (s730 && r750)) rfl (by first | (rw [hc754]; done) | (rw [hc754]; rfl) | simp [hc754]) ?_
       exact QW.meet (fun a ha => ⟨ha.agrees (by kernel_rfl), hst.keep [0] rfl⟩)
      ·refine OW.pure 3 [(6, .bool false)] (by kernel_rfl) ?_
       refine OW.nil rfl ?_
       refine QW.say 6 (v := .bool (s730 && r750)) rfl (by first | (rw [hc754]; done) | (rw [hc754]; rfl) | simp [hc754]) ?_
       exact QW.meet (fun a ha => ⟨ha.agrees (by kernel_rfl), hst.keep [0] rfl⟩)
     ·rintro a w1 ⟨ha, hst⟩
      refine CW.go ?_ ha
      refine CW.seq ?_
      refine CW.region ?_
      refine OW.pure 2 [(45, .slice a2 (p0).length c3), (46, .int .i64 (i731 : Int))] (by kernel_rfl) ?_
      obtain ⟨g766, o767, c768, hv765⟩ := h0.formv (fun _ => ⟨_, rfl⟩) hx745
      refine OW.idx 46 22 rfl rfl rfl rfl hv765 rfl (idx_some hx745).1 (idx_some hx745).2.1 (by kernel_rfl) (by kernel_rfl) ?_
      refine OW.ldN (cs := enc_api_Entry x744) rfl rfl rfl rfl (by kernel_rfl) (by kernel_rfl) (h0.cellv hst hx745 hv765) ?_
      refine OW.row (α := api_Entry) (e := 46) (enc := enc_api_Entry) (sz := 22) hst rfl rfl rfl [x744] rfl (fun _ => rfl) rfl rfl (fun _ => by kernel_rfl) ?_
      intro g769 w770 hst
      obtain ⟨r771, hr772, hl729⟩ := bind_some' hl729
      refine OW.fn rfl rfl rfl rfl (by kernel_rfl) (trace_Print_ok _ fu (.slice (some ⟨g769, 0, none⟩) 1 1) ([x744]) r771 hr772 (hst.part [] rfl) (hst.rd 1 rfl (fun _ => rfl) [] rfl (hst.len 1 rfl).1) (hT0.give hst []) (hTL.give hst [])) ?_
      rintro e w773 ⟨rfl, hst774⟩
      refine ⟨_, rfl, ?_⟩
      have hst := hst.join (idx := []) (rest := [0, 1]) rfl hst774
      refine OW.pure 5 [(9, .string r771.1), (10, .int .i64 r771.2)] (by kernel_rfl) ?_
      refine OW.nil rfl ?_
      refine QW.next ?_
      refine CW.seq ?_
      refine CW.region ?_
      refine OW.pure 4 [(54, .slice a2 (p0).length c3), (55, .int .i64 (i731 : Int)), (57, .int .i64 (w64 ((i731 : Int) + 1)))] (by kernel_rfl) ?_
      obtain ⟨ys782, hcut783, hl729⟩ := bind_some' hl729
      refine OW.op (v := .slice (shd a2 c3 (Int.toNat (i731 : Int)) 22) (ys782).length (c3 - Int.toNat (i731 : Int))) rfl rfl rfl rfl (fun a ha => sub_run (e := 46) 22 rfl rfl rfl rfl hcut783 h0.cap (by kernel_rfl) (by kernel_rfl) a _ ha) ?_
      have hp784 := h0.part hcut783
      obtain ⟨r785, hr786, hl729⟩ := bind_some' hl729
      refine OW.fn rfl rfl rfl rfl (by kernel_rfl) (tappetref26_Print_ok _ fu (.slice (shd a2 c3 (Int.toNat (i731 : Int)) 22) (ys782).length (c3 - Int.toNat (i731 : Int))) ys782 r785 hr786 (hst.part [] rfl) (hp784.give hst [])) ?_
      rintro e w787 ⟨rfl, hst788⟩
      refine ⟨_, rfl, ?_⟩
      have hst := hst.join (idx := []) (rest := [0, 1]) rfl hst788
      refine OW.pure 5 [(11, .string r785.1), (12, .int .i64 r785.2)] (by kernel_rfl) ?_
      refine OW.nil rfl ?_
      refine QW.next ?_
      refine CW.seq ?_
      obtain ⟨o832, ho833, hl729⟩ := bind_some' hl729
      refine CW.cutK (fun a w1 => Rep 124 [(0, .slice a2 (p0).length c3), (5, .slice a53 ((([] : List api_Entry) ++ p0)).length c54), (6, .bool (s730 && r750)), (7, .int .i64 (i731 : Int)), (94, .bool o832)] a ∧ St w (fp []) w1 [rowI (.slice a53 ((([] : List api_Entry) ++ p0)).length c54) 46 enc_api_Entry 22 (([] : List api_Entry) ++ p0)]) ?_ ?_
      ·refine CW.plan (by kernel_rfl) ?_
       intro w834 hch835
       have hst := hst.same hch835
       refine OA.pure [0, 1] [(62, .slice a2 (p0).length c3), (63, .int .i64 (i731 : Int))] (by kernel_rfl) ?_
       obtain ⟨g837, o838, c839, hv836⟩ := h0.formv (fun _ => ⟨_, rfl⟩) hx745
       refine OA.idx (i := 2) 46 22 rfl (by kernel_rfl) rfl rfl rfl hv836 rfl (idx_some hx745).1 (idx_some hx745).2.1 (by kernel_rfl) (by kernel_rfl) ?_
       refine OA.ldN (i := 3) (cs := enc_api_Entry x744) rfl (by kernel_rfl) rfl rfl rfl (by kernel_rfl) (by kernel_rfl) (h0.cellv hst hx745 hv836) ?_
       refine OA.pure [6] [(68, .bool r750)] (by kernel_rfl) ?_
       refine OA.act (i := 4) [] (by kernel_rfl) rfl rfl (by kernel_rfl) (by kernel_rfl) ?_
       refine OW.row (α := api_Entry) (e := 46) (enc := enc_api_Entry) (sz := 22) hst rfl rfl rfl [x744] rfl (fun _ => rfl) rfl rfl (fun _ => by kernel_rfl) ?_
       intro g840 w841 hst
       refine OA.next trivial ?_
       refine OA.act (i := 5) [] (by kernel_rfl) rfl rfl (by kernel_rfl) (by kernel_rfl) ?_
       obtain ⟨r842, hr843, ho833⟩ := bind_some' ho833
       refine OW.fn rfl rfl rfl rfl (by kernel_rfl) (trace_Plain_ok _ fu (.slice (some ⟨g840, 0, none⟩) 1 1) ([x744]) r842 hr843 (hst.part [] rfl) (hst.rd 2 rfl (fun _ => rfl) [] rfl (hst.len 2 rfl).1) (hT0.give hst []) (hTL.give hst [])) ?_
       rintro e w844 ⟨rfl, hst845⟩
       refine ⟨_, rfl, ?_⟩
       have hst := hst.join (idx := []) (rest := [0, 1, 2]) rfl hst845
       refine OA.next trivial ?_
       refine OA.pure [7, 8] [(70, .bool (!(r842 == r750)))] (by kernel_rfl) ?_
       refine OA.split 70 rfl (fun hc846 => ?_) (fun hc846 => ?_)
       ·have ho833 := ite_t ho833 hc846
        refine OA.pure [9, 10, 11, 12, 13, 14, 15, 16, 17, 18, 19, 20, 21, 22, 23, 24, 25, 26, 27, 28, 29, 30, 31, 32] [(94, .bool true)] (by kernel_rfl) ?_
        refine OA.fin (by kernel_rfl) (by kernel_rfl) ?_
        obtain rfl := Option.some.inj ho833
        exact QW.meet (fun a ha => ⟨ha.agrees (by kernel_rfl), hst.keep [0] rfl⟩)
       ·have ho833 := ite_f ho833 hc846
        refine OA.pure [9, 10, 11, 12, 13] [(75, .bool (sNe r771.1 r785.1))] (by kernel_rfl) ?_
        refine OA.split 75 rfl (fun hc847 => ?_) (fun hc847 => ?_)
        ·have ho833 := ite_t ho833 hc847
         refine OA.pure [14, 15, 16, 17, 18, 19, 20, 21, 22, 23, 24, 25, 26, 27, 28, 29, 30, 31, 32] [(94, .bool true)] (by kernel_rfl) ?_
         refine OA.fin (by kernel_rfl) (by kernel_rfl) ?_
         obtain rfl := Option.some.inj ho833
         exact QW.meet (fun a ha => ⟨ha.agrees (by kernel_rfl), hst.keep [0] rfl⟩)
        ·have ho833 := ite_f ho833 hc847
         refine OA.pure [14, 15, 16, 17, 18] [(80, .bool (r771.2 != r785.2))] (by kernel_rfl) ?_
         refine OA.split 80 rfl (fun hc848 => ?_) (fun hc848 => ?_)
         ·have ho833 := ite_t ho833 hc848
          refine OA.pure [19, 20, 21, 22, 23, 24, 25, 26, 27, 28, 29, 30, 31, 32] [(94, .bool true)] (by kernel_rfl) ?_
          refine OA.fin (by kernel_rfl) (by kernel_rfl) ?_
          obtain rfl := Option.some.inj ho833
          exact QW.meet (fun a ha => ⟨ha.agrees (by kernel_rfl), hst.keep [0] rfl⟩)
         ·have ho833 := ite_f ho833 hc848
          refine OA.pure [19, 20] [(81, .slice a2 (p0).length c3), (82, .int .i64 (i731 : Int))] (by kernel_rfl) ?_
          obtain ⟨g850, o851, c852, hv849⟩ := h0.formv (fun _ => ⟨_, rfl⟩) hx745
          refine OA.idx (i := 21) 46 22 rfl (by kernel_rfl) rfl rfl rfl hv849 rfl (idx_some hx745).1 (idx_some hx745).2.1 (by kernel_rfl) (by kernel_rfl) ?_
          refine OA.pure [22] [(84, .pointer (some ⟨g850, o851 + Int.toNat (i731 : Int) * 22, none⟩))] (by kernel_rfl) ?_
          refine OA.ld (i := 23) rfl (by kernel_rfl) rfl rfl rfl (by kernel_rfl) (h0.cellv hst hx745 hv849 0 _ rfl) ?_
          refine OA.pure [25, 26] [(87, .slice a2 (p0).length c3), (88, .int .i64 (i731 : Int))] (by kernel_rfl) ?_
          obtain ⟨g854, o855, c856, hv853⟩ := h0.formv (fun _ => ⟨_, rfl⟩) hx745
          refine OA.idx (i := 27) 46 22 rfl (by kernel_rfl) rfl rfl rfl hv853 rfl (idx_some hx745).1 (idx_some hx745).2.1 (by kernel_rfl) (by kernel_rfl) ?_
          refine OA.pure [28] [(90, .pointer (some ⟨g854, o855 + Int.toNat (i731 : Int) * 22, none⟩))] (by kernel_rfl) ?_
          refine OA.ld (i := 29) rfl (by kernel_rfl) rfl rfl rfl (by kernel_rfl) (h0.cellv hst hx745 hv853 0 _ rfl) ?_
          refine OA.act (i := 24) [29] (by kernel_rfl) rfl rfl (by kernel_rfl) (by kernel_rfl) ?_
          obtain ⟨r857, hr858, ho833⟩ := bind_some' ho833
          refine OW.fn rfl rfl rfl rfl (by kernel_rfl) (trace_Name_ok _ x744.What r857 hr858 (hst.part [] rfl) (hT0.give hst [])) ?_
          rintro e w859 ⟨rfl, hst860⟩
          refine ⟨_, rfl, ?_⟩
          have hst := hst.join (idx := []) (rest := [0, 1, 2]) rfl hst860
          refine OA.next ⟨(h0.cellv hst hx745 hv853 0 _ rfl), trivial⟩ ?_
          refine OA.act (i := 30) [] (by kernel_rfl) rfl rfl (by kernel_rfl) (by kernel_rfl) ?_
          obtain ⟨r861, hr862, ho833⟩ := bind_some' ho833
          refine OW.fn rfl rfl rfl rfl (by kernel_rfl) (tappetref26_Name_ok _ x744.What r861 hr862 (hst.part [] rfl)) ?_
          rintro e w863 ⟨rfl, hst864⟩
          refine ⟨_, rfl, ?_⟩
          have hst := hst.join (idx := []) (rest := [0, 1, 2]) rfl hst864
          refine OA.next trivial ?_
          refine OA.pure [31, 32] [(94, .bool (sNe r857 r861))] (by kernel_rfl) ?_
          refine OA.fin (by kernel_rfl) (by kernel_rfl) ?_
          obtain rfl := Option.some.inj ho833
          exact QW.meet (fun a ha => ⟨ha.agrees (by kernel_rfl), hst.keep [0] rfl⟩)
      ·rintro a w1 ⟨ha, hst⟩
       refine CW.go ?_ ha
       rcases Bool.eq_false_or_eq_true (o832) with hc865 | hc865
       ·have hl729 := ite_t hl729 hc865
        refine CW.cond_t rfl hc865 ?_
        refine CW.seq ?_
        refine CW.region ?_
        refine OW.pure 1 [(4, .bool false)] (by kernel_rfl) ?_
        refine OW.nil rfl ?_
        refine QW.next ?_
        refine CW.ret ?_
        refine QW.block_ret ?_
        refine QW.then_ret ?_
        refine QW.then_ret ?_
        refine QW.block_ret ?_
        refine QW.then_ret ?_
        obtain rfl := Option.some.inj hl729
        obtain rfl := Option.some.inj hF
        refine QW.ret1 rfl rfl ?_
        exact ⟨rfl, hst.keep [] rfl⟩
       ·have hl729 := ite_f hl729 hc865
        refine CW.cond_f rfl hc865 ?_
        refine CW.skip ?_
        refine QW.block_normal ?_
        refine QW.next ?_
        refine CW.region ?_
        refine OW.pure 3 [(7, .int .i64 (w64 ((i731 : Int) + 1)))] (by kernel_rfl) ?_
        refine OW.nil rfl ?_
        refine QW.say 7 rfl (congrArg (Value.int .i64) (w64_cnt hc733 l1)) ?_
        exact QW.meet (fun a ha => ⟨n728, Nat.lt_succ_self _, i731 + 1, (s730 && r750), cnt_next hi732, ha.agrees (by kernel_rfl), hst.keep [0] rfl, hl729⟩)
    ·rcases n728 with _ | n728
     ·refine CW.cond_f rfl hc733 ?_
      refine CW.exit ?_
      refine QW.then_exit ?_
      refine QW.then_exit ?_
      refine QW.block_here ?_
      obtain rfl := Option.some.inj hl729
      exact QW.meet (fun a ha => ⟨s730, rfl, ha.agrees (by kernel_rfl), hst.keep [0] rfl⟩)
     ·exact (cnt1 hi732 hc733).elim
   ·rintro a w1 ⟨t461, rfl, ha, hst⟩
    refine CW.go ?_ ha
    refine CW.seq ?_
    refine CW.region ?_
    refine OW.pure 1 [(96, .slice a53 ((([] : List api_Entry) ++ p0)).length c54)] (by kernel_rfl) ?_
    obtain ⟨r870, hr871, hF⟩ := bind_some' hF
    refine OW.fn rfl rfl rfl rfl (by kernel_rfl) (trace_Print_ok _ fu (.slice a53 ((([] : List api_Entry) ++ p0)).length c54) (([] : List api_Entry) ++ p0) r870 hr871 (hst.part [] rfl) (hst.rd 0 rfl (fun _ => rfl) [] rfl (hst.len 0 rfl).1) (hT0.give hst []) (hTL.give hst [])) ?_
    rintro e w872 ⟨rfl, hst873⟩
    refine ⟨_, rfl, ?_⟩
    have hst := hst.join (idx := []) (rest := [0]) rfl hst873
    refine OW.pure 5 [(13, .string r870.1), (14, .int .i64 r870.2)] (by kernel_rfl) ?_
    refine OW.nil rfl ?_
    refine QW.next ?_
    refine CW.seq ?_
    refine CW.region ?_
    refine OW.pure 1 [(101, .slice a2 (p0).length c3)] (by kernel_rfl) ?_
    obtain ⟨r878, hr879, hF⟩ := bind_some' hF
    refine OW.fn rfl rfl rfl rfl (by kernel_rfl) (tappetref26_Print_ok _ fu (.slice a2 (p0).length c3) p0 r878 hr879 (hst.part [] rfl) (h0.give hst [])) ?_
    rintro e w880 ⟨rfl, hst881⟩
    refine ⟨_, rfl, ?_⟩
    have hst := hst.join (idx := []) (rest := [0]) rfl hst881
    refine OW.pure 5 [(15, .string r878.1), (16, .int .i64 r878.2)] (by kernel_rfl) ?_
    refine OW.nil rfl ?_
    refine QW.next ?_
    refine CW.seq ?_
    obtain ⟨o897, ho898, hF⟩ := bind_some' hF
    refine CW.cutK (fun a w1 => Rep 124 [(4, .bool o897)] a ∧ St w (fp []) w1 []) ?_ ?_
    ·refine CW.region ?_
     refine OW.pure 1 [(105, .slice a53 ((([] : List api_Entry) ++ p0)).length c54)] (by kernel_rfl) ?_
     obtain ⟨r899, hr900, ho898⟩ := bind_some' ho898
     refine OW.fn rfl rfl rfl rfl (by kernel_rfl) (trace_Plain_ok _ fu (.slice a53 ((([] : List api_Entry) ++ p0)).length c54) (([] : List api_Entry) ++ p0) r899 hr900 (hst.part [] rfl) (hst.rd 0 rfl (fun _ => rfl) [] rfl (hst.len 0 rfl).1) (hT0.give hst []) (hTL.give hst [])) ?_
     rintro e w901 ⟨rfl, hst902⟩
     refine ⟨_, rfl, ?_⟩
     have hst := hst.join (idx := []) (rest := [0]) rfl hst902
     refine OW.pure 3 [(109, .bool (r899 == t461))] (by kernel_rfl) ?_
     refine OW.split 109 rfl (fun hc903 => ?_) (fun hc903 => ?_)
     ·have ho898 := ite_t ho898 hc903
      refine OW.pure 5 [(114, .bool (sEq r870.1 r878.1))] (by kernel_rfl) ?_
      refine OW.split 114 rfl (fun hc904 => ?_) (fun hc904 => ?_)
      ·have ho898 := ite_t ho898 hc904
       refine OW.pure 5 [(119, .bool (r870.2 == r878.2))] (by kernel_rfl) ?_
       refine OW.split 119 rfl (fun hc905 => ?_) (fun hc905 => ?_)
       ·have ho898 := ite_t ho898 hc905
        refine OW.pure 2 [(120, .slice a53 ((([] : List api_Entry) ++ p0)).length c54), (121, .slice a2 (p0).length c3)] (by kernel_rfl) ?_
        obtain ⟨r906, hr907, ho898⟩ := bind_some' ho898
        refine OW.fn rfl rfl rfl rfl (by kernel_rfl) (tappetlaw26_logs_ok _ (.slice a53 ((([] : List api_Entry) ++ p0)).length c54) (([] : List api_Entry) ++ p0) (.slice a2 (p0).length c3) p0 r906 hr907 (hst.part [] rfl) (hst.rd 0 rfl (fun _ => rfl) [] rfl (hst.len 0 rfl).1) (h0.give hst [])) ?_
        rintro e w908 ⟨rfl, hst909⟩
        refine ⟨_, rfl, ?_⟩
        have hst := hst.join (idx := []) (rest := [0]) rfl hst909
        refine OW.pure 2 [(4, .bool r906)] (by kernel_rfl) ?_
        refine OW.nil rfl ?_
        obtain rfl := Option.some.inj ho898
        exact QW.meet (fun a ha => ⟨ha.agrees (by kernel_rfl), hst.keep [] rfl⟩)
       ·have ho898 := ite_f ho898 hc905
        refine OW.pure 5 [(4, .bool false)] (by kernel_rfl) ?_
        refine OW.nil rfl ?_
        obtain rfl := Option.some.inj ho898
        exact QW.meet (fun a ha => ⟨ha.agrees (by kernel_rfl), hst.keep [] rfl⟩)
      ·have ho898 := ite_f ho898 hc904
       refine OW.pure 10 [(4, .bool false)] (by kernel_rfl) ?_
       refine OW.nil rfl ?_
       obtain rfl := Option.some.inj ho898
       exact QW.meet (fun a ha => ⟨ha.agrees (by kernel_rfl), hst.keep [] rfl⟩)
     ·have ho898 := ite_f ho898 hc903
      refine OW.pure 15 [(4, .bool false)] (by kernel_rfl) ?_
      refine OW.nil rfl ?_
      obtain rfl := Option.some.inj ho898
      exact QW.meet (fun a ha => ⟨ha.agrees (by kernel_rfl), hst.keep [] rfl⟩)
    ·rintro a w1 ⟨ha, hst⟩
     refine CW.go ?_ ha
     refine CW.ret ?_
     obtain rfl := Option.some.inj hF
     refine QW.ret1 rfl rfl ?_
     exact ⟨rfl, hst.keep [] rfl⟩

set_option maxRecDepth 10000 in
set_option maxHeartbeats 4000000 in
theorem trace_kept_34_ok (w : World) (v0 : Value) (p0 : List api_Entry) (c1 : Nat) (v1 : Value) (p1 : List Int) (r : (List api_Entry)) (hF : trace_kept_34 p0 p1 = some r)
    (hst : St w (fp []) w []) (h0 : Rd w (fp []) v0 enc_api_Entry 22 p0) (h1 : Rd w (fp []) v1 (encInt .i64) 1 p1) (hc1 : RdB w (fp []) c1 [v1]) :
    Calls Tryd.prog 33 [v0, .func (.func 34) #[] #[.pointer (some ⟨c1, 0, none⟩)]].toArray w (fun e w' => ∃ (x0 : Value), e = .returned (x0) ∧ St w (fp []) w' [rowI x0 46 enc_api_Entry 22 r]) := by
 refine CW.start (N := 23) Tryd.func33 rfl rfl rfl ?_
 obtain ⟨l1, a2, c3, rfl⟩ := h0.len
 obtain ⟨l4, a5, c6, rfl⟩ := h1.len
 refine CW.seq ?_
 refine CW.region ?_
 refine OW.pure 1 [] (by kernel_rfl) ?_
 refine OW.nil rfl ?_
 refine QW.next ?_
 refine CW.seq ?_
 refine CW.region ?_
 refine OW.pure 1 [(5, .slice none 0 0)] (by kernel_rfl) ?_
 refine OW.nil rfl ?_
 refine QW.next ?_
 refine CW.seq ?_
 refine CW.seq ?_
 refine CW.region ?_
 refine OW.pure 3 [(8, .slice a2 (p0).length c3), (9, .int .i64 ((p0).length : Int)), (10, .int .i64 0)] (by kernel_rfl) ?_
 refine OW.nil rfl ?_
 refine QW.next ?_
 obtain ⟨o166, ho167, hF⟩ := bind_some' hF
 refine CW.cutK (fun a w1 => ∃ (v165 : Value), Rep 23 [(5, v165)] a ∧ St w (fp []) w1 [rowI v165 46 enc_api_Entry 22 o166]) ?_ ?_
 ·refine CW.block ?_
  have hst := hst.nilRow api_Entry 46 enc_api_Entry 22
  refine CW.loop (fun n a w1 => ∃ (i274 : Nat) (s272 : (List api_Entry)) (v273 : Value), i274 + n = (p0).length ∧ Rep 23 [(1, .func (.func 34) #[] #[.pointer (some ⟨c1, 0, none⟩)]), (5, v273), (8, .slice a2 (p0).length c3), (9, .int .i64 ((p0).length : Int)), (10, .int .i64 (i274 : Int))] a ∧ St w (fp []) w1 [rowI v273 46 enc_api_Entry 22 s272] ∧ forN (trace_kept_34_l1 p0 p1) (fun (s272 : (List api_Entry)) => s272) n i274 s272 = some o166) (p0).length (fun a ha => ⟨0, ([] : List api_Entry), (.slice none 0 0), Nat.zero_add _, ha.agrees (by kernel_rfl), hst.keep [0] rfl, ho167⟩) ?_
  rintro n270 a w1 ⟨i274, s272, v273, hi275, ha, hst, hl271⟩
  refine CW.go ?_ ha
  obtain ⟨l276, a277, c278, rfl⟩ := hst.len 0 rfl
  refine CW.seq ?_
  refine CW.region ?_
  refine OW.pure 1 [(11, .bool (decide ((i274 : Int) < ((p0).length : Int))))] (by kernel_rfl) ?_
  refine OW.nil rfl ?_
  refine QW.next ?_
  refine CW.seq ?_
  rcases Bool.eq_false_or_eq_true (decide ((i274 : Int) < ((p0).length : Int))) with hc279 | hc279
  ·rcases n270 with _ | n270
   ·exact (cnt0 hi275 hc279).elim
   refine CW.cond_t rfl hc279 ?_
   refine CW.skip ?_
   refine QW.next ?_
   refine CW.seq ?_
   refine CW.block ?_
   refine CW.seq ?_
   refine CW.region ?_
   obtain ⟨x289, hx290, hl271⟩ := bind_some' hl271
   obtain ⟨g292, o293, c294, hv291⟩ := h0.formv (fun _ => ⟨_, rfl⟩) hx290
   refine OW.idx 46 22 rfl rfl rfl rfl hv291 rfl (idx_some hx290).1 (idx_some hx290).2.1 (by kernel_rfl) (by kernel_rfl) ?_
   refine OW.ldN (cs := enc_api_Entry x289) rfl rfl rfl rfl (by kernel_rfl) (by kernel_rfl) (h0.cellv hst hx290 hv291) ?_
   refine OW.alloc hst rfl rfl rfl [.int .i64 0, .int .i64 0, .int .i64 0, .int .i64 0, .int .i64 0, .int .i64 0, .int .i64 0, .int .i64 0, .int .i64 0, .int .i64 0, .int .i64 0, .int .i64 0, .int .u64 0, .int .u64 0, .int .i64 0, .bool false, .int .u64 0, .bool false, .int .u64 0, .int .u64 0, .int .u64 0, .int .i64 0] (by kernel_rfl) ?_
   intro b295 w296 hst
   refine OW.stB hst 1 rfl rfl rfl rfl rfl (by kernel_rfl) rfl rfl [.int .i64 x289.What, .int .i64 x289.Task, .int .i64 x289.From, .int .i64 x289.Cmd, .int .i64 x289.Tag, .int .i64 x289.Event, .int .i64 x289.Hook, .int .i64 x289.Prog, .int .i64 x289.Version, .int .i64 x289.Pc, .int .i64 x289.Item.Map, .int .i64 x289.Item.Op, .int .u64 x289.Item.Key, .int .u64 x289.Item.Val, .int .i64 x289.Res.E, .bool x289.Res.Found, .int .u64 x289.Res.Val, .bool x289.Res.Out, .int .u64 x289.Res.OutKey, .int .u64 x289.Res.OutVal, .int .u64 x289.Val, .int .i64 x289.E] rfl ?_
   intro w297 hst
   refine OW.nil rfl ?_
   refine QW.next ?_
   refine CW.seq ?_
   refine CW.region ?_
   refine OW.pure 1 [(14, .func (.func 34) #[] #[.pointer (some ⟨c1, 0, none⟩)])] (by kernel_rfl) ?_
   refine OW.ldN (cs := [.int .i64 x289.What, .int .i64 x289.Task, .int .i64 x289.From, .int .i64 x289.Cmd, .int .i64 x289.Tag, .int .i64 x289.Event, .int .i64 x289.Hook, .int .i64 x289.Prog, .int .i64 x289.Version, .int .i64 x289.Pc, .int .i64 x289.Item.Map, .int .i64 x289.Item.Op, .int .u64 x289.Item.Key, .int .u64 x289.Item.Val, .int .i64 x289.Res.E, .bool x289.Res.Found, .int .u64 x289.Res.Val, .bool x289.Res.Out, .int .u64 x289.Res.OutKey, .int .u64 x289.Res.OutVal, .int .u64 x289.Val, .int .i64 x289.E]) rfl rfl rfl rfl (by kernel_rfl) (by kernel_rfl) (hst.blkN 1 rfl 0 22) ?_
   obtain ⟨r302, hr303, hl271⟩ := bind_some' hl271
   refine OW.fn rfl rfl rfl rfl (by kernel_rfl) (trace_Only_1_ok _ x289 c1 (.slice a5 (p1).length c6) p1 r302 hr303 (hst.part [] rfl) (h1.give hst []) (hc1.give hst [])) ?_
   rintro e w304 ⟨rfl, hst305⟩
   refine ⟨_, rfl, ?_⟩
   have hst := hst.join (idx := []) (rest := [0, 1]) rfl hst305
   refine OW.nil rfl ?_
   refine QW.next ?_
   rcases Bool.eq_false_or_eq_true (r302) with hc306 | hc306
   ·have hl271 := ite_t hl271 hc306
    refine CW.cond_t rfl hc306 ?_
    refine CW.region ?_
    refine OW.pure 1 [(17, .slice a277 (s272).length c278)] (by kernel_rfl) ?_
    refine OW.ldN (cs := [.int .i64 x289.What, .int .i64 x289.Task, .int .i64 x289.From, .int .i64 x289.Cmd, .int .i64 x289.Tag, .int .i64 x289.Event, .int .i64 x289.Hook, .int .i64 x289.Prog, .int .i64 x289.Version, .int .i64 x289.Pc, .int .i64 x289.Item.Map, .int .i64 x289.Item.Op, .int .u64 x289.Item.Key, .int .u64 x289.Item.Val, .int .i64 x289.Res.E, .bool x289.Res.Found, .int .u64 x289.Res.Val, .bool x289.Res.Out, .int .u64 x289.Res.OutKey, .int .u64 x289.Res.OutVal, .int .u64 x289.Val, .int .i64 x289.E]) rfl rfl rfl rfl (by kernel_rfl) (by kernel_rfl) (hst.blkN 1 rfl 0 22) ?_
    refine OW.row (α := api_Entry) (e := 46) (enc := enc_api_Entry) (sz := 22) hst rfl rfl rfl [x289] rfl (fun _ => rfl) rfl rfl (fun _ => by kernel_rfl) ?_
    intro g316 w317 hst
    obtain ⟨u318, hr319, hl271⟩ := bind_some' hl271
    refine OW.app hst 0 rfl (fun _ => rfl) (fun _ => rfl) rfl rfl rfl rfl rfl rfl (by kernel_rfl) el46 (hst.rd 2 rfl (fun _ => rfl) [] rfl (hst.len 2 rfl).1) (room_le hr319) ?_
    intro v320 w321 hst
    obtain ⟨l322, a323, c324, rfl⟩ := hst.len 0 rfl
    refine OW.pure 1 [(5, .slice a323 ((s272 ++ [x289])).length c324)] (by kernel_rfl) ?_
    refine OW.nil rfl ?_
    refine QW.block_normal ?_
    refine QW.next ?_
    refine CW.region ?_
    refine OW.pure 2 [(10, .int .i64 (w64 ((i274 : Int) + 1)))] (by kernel_rfl) ?_
    refine OW.nil rfl ?_
    have hst := hst.shutP0 (enc := enc_api_Entry) (sz := 22) (he := fun _ => rfl) 1 rfl x289 rfl
    refine QW.say 10 rfl (congrArg (Value.int .i64) (w64_cnt hc279 l1)) ?_
    exact QW.meet (fun a ha => ⟨n270, Nat.lt_succ_self _, i274 + 1, (s272 ++ [x289]), (.slice a323 ((s272 ++ [x289])).length c324), cnt_next hi275, ha.agrees (by kernel_rfl), hst.keep [0] rfl, hl271⟩)
   ·have hl271 := ite_f hl271 hc306
    refine CW.cond_f rfl hc306 ?_
    refine CW.skip ?_
    refine QW.block_normal ?_
    refine QW.next ?_
    refine CW.region ?_
    refine OW.pure 2 [(10, .int .i64 (w64 ((i274 : Int) + 1)))] (by kernel_rfl) ?_
    refine OW.nil rfl ?_
    have hst := hst.shutP0 (enc := enc_api_Entry) (sz := 22) (he := fun _ => rfl) 1 rfl x289 rfl
    refine QW.say 10 rfl (congrArg (Value.int .i64) (w64_cnt hc279 l1)) ?_
    exact QW.meet (fun a ha => ⟨n270, Nat.lt_succ_self _, i274 + 1, s272, (.slice a277 (s272).length c278), cnt_next hi275, ha.agrees (by kernel_rfl), hst.keep [0] rfl, hl271⟩)
  ·rcases n270 with _ | n270
   ·refine CW.cond_f rfl hc279 ?_
    refine CW.exit ?_
    refine QW.then_exit ?_
    refine QW.then_exit ?_
    refine QW.block_here ?_
    obtain rfl := Option.some.inj hl271
    exact QW.meet (fun a ha => ⟨(.slice a277 (s272).length c278), ha.agrees (by kernel_rfl), hst.keep [0] rfl⟩)
   ·exact (cnt1 hi275 hc279).elim
 ·rintro a w1 ⟨v165, ha, hst⟩
  refine CW.go ?_ ha
  obtain ⟨l328, a329, c330, rfl⟩ := hst.len 0 rfl
  refine CW.seq ?_
  refine CW.region ?_
  refine OW.pure 2 [(4, .slice a329 (o166).length c330)] (by kernel_rfl) ?_
  refine OW.nil rfl ?_
  refine QW.next ?_
  refine CW.ret ?_
  obtain rfl := Option.some.inj hF
  refine QW.ret1 rfl rfl ?_
  exact ⟨(.slice a329 (o166).length c330), rfl, hst.keep [0] rfl⟩

set_option maxRecDepth 10000 in
set_option maxHeartbeats 4000000 in
theorem trace_kept_36_ok (w : World) (v0 : Value) (p0 : List api_Entry) (c1 : Nat) (v1 : Value) (p1 : List Int) (r : (List api_Entry)) (hF : trace_kept_36 p0 p1 = some r)
    (hst : St w (fp []) w []) (h0 : Rd w (fp []) v0 enc_api_Entry 22 p0) (h1 : Rd w (fp []) v1 (encInt .i64) 1 p1) (hc1 : RdB w (fp []) c1 [v1]) :
    Calls Tryd.prog 33 [v0, .func (.func 36) #[] #[.pointer (some ⟨c1, 0, none⟩)]].toArray w (fun e w' => ∃ (x0 : Value), e = .returned (x0) ∧ St w (fp []) w' [rowI x0 46 enc_api_Entry 22 r]) := by
 refine CW.start (N := 23) Tryd.func33 rfl rfl rfl ?_
 obtain ⟨l1, a2, c3, rfl⟩ := h0.len
 obtain ⟨l4, a5, c6, rfl⟩ := h1.len
 refine CW.seq ?_
 refine CW.region ?_
 refine OW.pure 1 [] (by kernel_rfl) ?_
 refine OW.nil rfl ?_
 refine QW.next ?_
 refine CW.seq ?_
 refine CW.region ?_
 refine OW.pure 1 [(5, .slice none 0 0)] (by kernel_rfl) ?_
 refine OW.nil rfl ?_
 refine QW.next ?_
 refine CW.seq ?_
 refine CW.seq ?_
 refine CW.region ?_
 refine OW.pure 3 [(8, .slice a2 (p0).length c3), (9, .int .i64 ((p0).length : Int)), (10, .int .i64 0)] (by kernel_rfl) ?_
 refine OW.nil rfl ?_
 refine QW.next ?_
 obtain ⟨o166, ho167, hF⟩ := bind_some' hF
 refine CW.cutK (fun a w1 => ∃ (v165 : Value), Rep 23 [(5, v165)] a ∧ St w (fp []) w1 [rowI v165 46 enc_api_Entry 22 o166]) ?_ ?_
 ·refine CW.block ?_
  have hst := hst.nilRow api_Entry 46 enc_api_Entry 22
  refine CW.loop (fun n a w1 => ∃ (i274 : Nat) (s272 : (List api_Entry)) (v273 : Value), i274 + n = (p0).length ∧ Rep 23 [(1, .func (.func 36) #[] #[.pointer (some ⟨c1, 0, none⟩)]), (5, v273), (8, .slice a2 (p0).length c3), (9, .int .i64 ((p0).length : Int)), (10, .int .i64 (i274 : Int))] a ∧ St w (fp []) w1 [rowI v273 46 enc_api_Entry 22 s272] ∧ forN (trace_kept_36_l1 p0 p1) (fun (s272 : (List api_Entry)) => s272) n i274 s272 = some o166) (p0).length (fun a ha => ⟨0, ([] : List api_Entry), (.slice none 0 0), Nat.zero_add _, ha.agrees (by kernel_rfl), hst.keep [0] rfl, ho167⟩) ?_
  rintro n270 a w1 ⟨i274, s272, v273, hi275, ha, hst, hl271⟩
  refine CW.go ?_ ha
  obtain ⟨l276, a277, c278, rfl⟩ := hst.len 0 rfl
  refine CW.seq ?_
  refine CW.region ?_
  refine OW.pure 1 [(11, .bool (decide ((i274 : Int) < ((p0).length : Int))))] (by kernel_rfl) ?_
  refine OW.nil rfl ?_
  refine QW.next ?_
  refine CW.seq ?_
  rcases Bool.eq_false_or_eq_true (decide ((i274 : Int) < ((p0).length : Int))) with hc279 | hc279
  ·rcases n270 with _ | n270
   ·exact (cnt0 hi275 hc279).elim
   refine CW.cond_t rfl hc279 ?_
   refine CW.skip ?_
   refine QW.next ?_
   refine CW.seq ?_
   refine CW.block ?_
   refine CW.seq ?_
   refine CW.region ?_
   obtain ⟨x289, hx290, hl271⟩ := bind_some' hl271
   obtain ⟨g292, o293, c294, hv291⟩ := h0.formv (fun _ => ⟨_, rfl⟩) hx290
   refine OW.idx 46 22 rfl rfl rfl rfl hv291 rfl (idx_some hx290).1 (idx_some hx290).2.1 (by kernel_rfl) (by kernel_rfl) ?_
   refine OW.ldN (cs := enc_api_Entry x289) rfl rfl rfl rfl (by kernel_rfl) (by kernel_rfl) (h0.cellv hst hx290 hv291) ?_
   refine OW.alloc hst rfl rfl rfl [.int .i64 0, .int .i64 0, .int .i64 0, .int .i64 0, .int .i64 0, .int .i64 0, .int .i64 0, .int .i64 0, .int .i64 0, .int .i64 0, .int .i64 0, .int .i64 0, .int .u64 0, .int .u64 0, .int .i64 0, .bool false, .int .u64 0, .bool false, .int .u64 0, .int .u64 0, .int .u64 0, .int .i64 0] (by kernel_rfl) ?_
   intro b295 w296 hst
   refine OW.stB hst 1 rfl rfl rfl rfl rfl (by kernel_rfl) rfl rfl [.int .i64 x289.What, .int .i64 x289.Task, .int .i64 x289.From, .int .i64 x289.Cmd, .int .i64 x289.Tag, .int .i64 x289.Event, .int .i64 x289.Hook, .int .i64 x289.Prog, .int .i64 x289.Version, .int .i64 x289.Pc, .int .i64 x289.Item.Map, .int .i64 x289.Item.Op, .int .u64 x289.Item.Key, .int .u64 x289.Item.Val, .int .i64 x289.Res.E, .bool x289.Res.Found, .int .u64 x289.Res.Val, .bool x289.Res.Out, .int .u64 x289.Res.OutKey, .int .u64 x289.Res.OutVal, .int .u64 x289.Val, .int .i64 x289.E] rfl ?_
   intro w297 hst
   refine OW.nil rfl ?_
   refine QW.next ?_
   refine CW.seq ?_
   refine CW.region ?_
   refine OW.pure 1 [(14, .func (.func 36) #[] #[.pointer (some ⟨c1, 0, none⟩)])] (by kernel_rfl) ?_
   refine OW.ldN (cs := [.int .i64 x289.What, .int .i64 x289.Task, .int .i64 x289.From, .int .i64 x289.Cmd, .int .i64 x289.Tag, .int .i64 x289.Event, .int .i64 x289.Hook, .int .i64 x289.Prog, .int .i64 x289.Version, .int .i64 x289.Pc, .int .i64 x289.Item.Map, .int .i64 x289.Item.Op, .int .u64 x289.Item.Key, .int .u64 x289.Item.Val, .int .i64 x289.Res.E, .bool x289.Res.Found, .int .u64 x289.Res.Val, .bool x289.Res.Out, .int .u64 x289.Res.OutKey, .int .u64 x289.Res.OutVal, .int .u64 x289.Val, .int .i64 x289.E]) rfl rfl rfl rfl (by kernel_rfl) (by kernel_rfl) (hst.blkN 1 rfl 0 22) ?_
   obtain ⟨r302, hr303, hl271⟩ := bind_some' hl271
   refine OW.fn rfl rfl rfl rfl (by kernel_rfl) (trace_Of_1_ok _ x289 c1 (.slice a5 (p1).length c6) p1 r302 hr303 (hst.part [] rfl) (h1.give hst []) (hc1.give hst [])) ?_
   rintro e w304 ⟨rfl, hst305⟩
   refine ⟨_, rfl, ?_⟩
   have hst := hst.join (idx := []) (rest := [0, 1]) rfl hst305
   refine OW.nil rfl ?_
   refine QW.next ?_
   rcases Bool.eq_false_or_eq_true (r302) with hc306 | hc306
   ·have hl271 := ite_t hl271 hc306
    refine CW.cond_t rfl hc306 ?_
    refine CW.region ?_
    refine OW.pure 1 [(17, .slice a277 (s272).length c278)] (by kernel_rfl) ?_
    refine OW.ldN (cs := [.int .i64 x289.What, .int .i64 x289.Task, .int .i64 x289.From, .int .i64 x289.Cmd, .int .i64 x289.Tag, .int .i64 x289.Event, .int .i64 x289.Hook, .int .i64 x289.Prog, .int .i64 x289.Version, .int .i64 x289.Pc, .int .i64 x289.Item.Map, .int .i64 x289.Item.Op, .int .u64 x289.Item.Key, .int .u64 x289.Item.Val, .int .i64 x289.Res.E, .bool x289.Res.Found, .int .u64 x289.Res.Val, .bool x289.Res.Out, .int .u64 x289.Res.OutKey, .int .u64 x289.Res.OutVal, .int .u64 x289.Val, .int .i64 x289.E]) rfl rfl rfl rfl (by kernel_rfl) (by kernel_rfl) (hst.blkN 1 rfl 0 22) ?_
    refine OW.row (α := api_Entry) (e := 46) (enc := enc_api_Entry) (sz := 22) hst rfl rfl rfl [x289] rfl (fun _ => rfl) rfl rfl (fun _ => by kernel_rfl) ?_
    intro g316 w317 hst
    obtain ⟨u318, hr319, hl271⟩ := bind_some' hl271
    refine OW.app hst 0 rfl (fun _ => rfl) (fun _ => rfl) rfl rfl rfl rfl rfl rfl (by kernel_rfl) el46 (hst.rd 2 rfl (fun _ => rfl) [] rfl (hst.len 2 rfl).1) (room_le hr319) ?_
    intro v320 w321 hst
    obtain ⟨l322, a323, c324, rfl⟩ := hst.len 0 rfl
    refine OW.pure 1 [(5, .slice a323 ((s272 ++ [x289])).length c324)] (by kernel_rfl) ?_
    refine OW.nil rfl ?_
    refine QW.block_normal ?_
    refine QW.next ?_
    refine CW.region ?_
    refine OW.pure 2 [(10, .int .i64 (w64 ((i274 : Int) + 1)))] (by kernel_rfl) ?_
    refine OW.nil rfl ?_
    have hst := hst.shutP0 (enc := enc_api_Entry) (sz := 22) (he := fun _ => rfl) 1 rfl x289 rfl
    refine QW.say 10 rfl (congrArg (Value.int .i64) (w64_cnt hc279 l1)) ?_
    exact QW.meet (fun a ha => ⟨n270, Nat.lt_succ_self _, i274 + 1, (s272 ++ [x289]), (.slice a323 ((s272 ++ [x289])).length c324), cnt_next hi275, ha.agrees (by kernel_rfl), hst.keep [0] rfl, hl271⟩)
   ·have hl271 := ite_f hl271 hc306
    refine CW.cond_f rfl hc306 ?_
    refine CW.skip ?_
    refine QW.block_normal ?_
    refine QW.next ?_
    refine CW.region ?_
    refine OW.pure 2 [(10, .int .i64 (w64 ((i274 : Int) + 1)))] (by kernel_rfl) ?_
    refine OW.nil rfl ?_
    have hst := hst.shutP0 (enc := enc_api_Entry) (sz := 22) (he := fun _ => rfl) 1 rfl x289 rfl
    refine QW.say 10 rfl (congrArg (Value.int .i64) (w64_cnt hc279 l1)) ?_
    exact QW.meet (fun a ha => ⟨n270, Nat.lt_succ_self _, i274 + 1, s272, (.slice a277 (s272).length c278), cnt_next hi275, ha.agrees (by kernel_rfl), hst.keep [0] rfl, hl271⟩)
  ·rcases n270 with _ | n270
   ·refine CW.cond_f rfl hc279 ?_
    refine CW.exit ?_
    refine QW.then_exit ?_
    refine QW.then_exit ?_
    refine QW.block_here ?_
    obtain rfl := Option.some.inj hl271
    exact QW.meet (fun a ha => ⟨(.slice a277 (s272).length c278), ha.agrees (by kernel_rfl), hst.keep [0] rfl⟩)
   ·exact (cnt1 hi275 hc279).elim
 ·rintro a w1 ⟨v165, ha, hst⟩
  refine CW.go ?_ ha
  obtain ⟨l328, a329, c330, rfl⟩ := hst.len 0 rfl
  refine CW.seq ?_
  refine CW.region ?_
  refine OW.pure 2 [(4, .slice a329 (o166).length c330)] (by kernel_rfl) ?_
  refine OW.nil rfl ?_
  refine QW.next ?_
  refine CW.ret ?_
  obtain rfl := Option.some.inj hF
  refine QW.ret1 rfl rfl ?_
  exact ⟨(.slice a329 (o166).length c330), rfl, hst.keep [0] rfl⟩


end Go.Proofs.YtalllncanpcmfaaDoor

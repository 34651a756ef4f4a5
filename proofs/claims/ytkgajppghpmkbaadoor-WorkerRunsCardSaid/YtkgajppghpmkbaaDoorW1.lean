/- Written by a program (wip/gen): the walks: each Go function returns what its plain function computes. -/
import Derived.Test.YtkgajppghpmkbaaDoorProg
import Derived.Test.YtkgajppghpmkbaaDoorF1
import Derived.Test.YtkgajppghpmkbaaDoorSq
import Derived.Test.YtkgajppghpmkbaaDoorPart
import Derived.Test.YtkgajppghpmkbaaDoorO1
import Derived.Test.YtkgajppghpmkbaaDoorW1p4
set_option linter.unusedSimpArgs false
namespace Go.Proofs.YtkgajppghpmkbaaDoor
open Go.Sx
set_option linter.unusedVariables false
set_option maxRecDepth 10000
set_option maxHeartbeats 4000000
theorem engine_Trace_ok (w : World) (fu : Nat) (v0_0 : Value) (v0_1 : Value) (p0 : api_Module) (p1 : api_Event) (v2 : Value) (p2 : List api_Res) (r : (List api_Act) × Int) (hF : engine_Trace fu p0 p1 p2 = some r)
    (hst : St w (fp []) w []) (h0_0 : Rd w (fp []) v0_0 (encInt .i64) 1 p0.Maps) (h0_1 : Rd w (fp []) v0_1 enc_api_Inst 5 p0.Code) (h2 : Rd w (fp []) v2 enc_api_Res 6 p2) (hT0 : Rd w (fp []) (.slice (some ⟨0, 0, none⟩) 23 23) enc_ops_form 2 tab_g0) (hT1 : Rd w (fp []) (.slice (some ⟨1, 0, none⟩) 7 7) enc_sigs_sig 5 tab_g1) :
    Calls Tryd.prog 18 [.agg [v0_0, v0_1].toArray, .agg [U p1.A, U p1.B].toArray, v2].toArray w (fun e w' => ∃ (x0 : Value), e = .returned (.tuple #[x0, I r.2]) ∧ St w (fp []) w' [rowI x0 58 enc_api_Act 7 r.1]) := by
 refine CW.start (N := 52) Tryd.func18 rfl rfl rfl ?_
 obtain ⟨l1, a2, c3, rfl⟩ := h0_0.len
 obtain ⟨l4, a5, c6, rfl⟩ := h0_1.len
 obtain ⟨l7, a8, c9, rfl⟩ := h2.len
 refine rg ?_
 refine OW.box hst rfl rfl rfl rfl [.slice a2 (p0.Maps).length c3, .slice a5 (p0.Code).length c6] rfl ?_
 intro b14 w15 hst
 refine OW.box hst rfl rfl rfl rfl [U p1.A, U p1.B] rfl ?_
 intro b16 w17 hst
 refine pu 2 [] (nx (CW.seq ?_))
 refine CW.plan (by kernel_rfl) ?_
 intro w39 hch40
 have hst := hst.same hch40
 refine OA.ldN (i := 0) (cs := [.slice a2 (p0.Maps).length c3, .slice a5 (p0.Code).length c6]) rfl (by kernel_rfl) rfl rfl rfl (by kernel_rfl) (by kernel_rfl) (hst.blkN 0 rfl 0 2) ?_
 refine OA.ldN (i := 1) (cs := [U p1.A, U p1.B]) rfl (by kernel_rfl) rfl rfl rfl (by kernel_rfl) (by kernel_rfl) (hst.blkN 1 rfl 0 2) ?_
 refine OA.act (i := 2) [1, 0] (by kernel_rfl) rfl rfl (by kernel_rfl) (by kernel_rfl) ?_
 obtain ⟨r41, hr42, hF⟩ := bs hF
 refine OW.fn rfl rfl rfl rfl (by kernel_rfl) (scratch_New_ok _ r41 hr42 (hst.part [] rfl)) ?_
 rintro e w43 ⟨v45, S46, rfl, hst44⟩
 refine ⟨_, rfl, ?_⟩
 have hst := hst.join (idx := []) (rest := [0, 1]) rfl hst44
 obtain ⟨b47, rfl⟩ := hst.fptr 0 rfl
 refine OA.next ⟨(hst.blkN 2 rfl 0 2), (hst.blkN 1 rfl 0 2), trivial⟩ ?_
 refine OA.act (i := 3) [] (by kernel_rfl) rfl rfl (by kernel_rfl) (by kernel_rfl) ?_
 obtain ⟨r48, hr49, hF⟩ := bs hF
 refine OW.fn rfl rfl rfl rfl (by kernel_rfl) (engine_New_ok _ fu (.slice a2 (p0.Maps).length c3) (.slice a5 (p0.Code).length c6) p0 p1 (Pt b47) S46 r41 r48 hr49 (hst.part [0] rfl) (h0_0.give hst [0]) (h0_1.give hst [0]) (hT0.give hst [0]) (hT1.give hst [0])) ?_
 rintro e w50 (⟨S52, k53, v55, S56, he54, rfl, hst51⟩ | ⟨S57, he58, rfl, hst51⟩)
 ·have hF := ocase_some hF he54
  refine ⟨_, rfl, ?_⟩
  have hst := hst.join (idx := [0]) (rest := [1, 2]) rfl hst51
  obtain ⟨b59, rfl⟩ := hst.fptr 1 rfl
  refine OA.next trivial ?_
  refine OA.pure [4, 5, 6] [(17, Pt b59), (18, I r48.2.1)] (by kernel_rfl) ?_
  refine OA.act (i := 7) [] (by kernel_rfl) rfl rfl (by kernel_rfl) (by kernel_rfl) ?_
  refine pu 1 [(8, Pt b59)] (OA.next trivial ?_)
  refine OA.act (i := 8) [] (by kernel_rfl) rfl rfl (by kernel_rfl) (by kernel_rfl) ?_
  refine pu 1 [(9, I r48.2.1)] (OA.next trivial ?_)
  refine OA.fin (by kernel_rfl) (by kernel_rfl) (QW.next (CW.seq (rg ?_)))
  refine pu 2 [(20, .bool (r48.2.1 != 0))] (nx ?_)
  refine br ((r48.2.1 != 0)) hF (fun hF hc60 => ?_) (fun hF hc60 => ?_)
  ·refine rg ?_
   refine pu 3 [(6, .slice none 0 0), (7, I r48.2.1)] (nx (CW.ret (QW.then_ret ?_)))
   have hst := hst.nilRow api_Act 58 enc_api_Act 7
   obtain rfl := inj hF
   refine QW.ret2 rfl rfl rfl ?_
   exact ⟨(.slice none 0 0), rfl, hst.keep [4] rfl⟩
  refine CW.skip (QW.next (rg ?_))
  refine pu 1 [(10, .slice none 0 0)] (nx (CW.block ?_))
  have hst := hst.nilRow api_Act 58 enc_api_Act 7
  refine CW.loop (fun n a w1 => ∃ (s229 : (List api_Res) × engine_Machine × scratch_Scratch × (List api_Act)) (v230 : Value) (S232 : List Nat) (S233 : List Nat) (v234 : Value), Rep 52 [(2, v230), (8, Pt b59), (10, v234)] a ∧ St w (fp []) w1 [itI (R_t69 (Pt b47)) [Pt b59] S232 s229.2.1, itI R_t67 [Pt b47] S233 s229.2.2.1, rowI v234 58 enc_api_Act 7 s229.2.2.2] ∧ Rd w (fp []) v230 enc_api_Res 6 s229.1 ∧ loop (engine_Trace_l1 fu) n s229 = some r) fu (fun a ha => ⟨(p2, k53, r48.2.2, ([] : List api_Act)), (.slice a8 (p2).length c9), S56, S52, (.slice none 0 0), ha.ag, hst.keep [1, 0, 4] rfl, h2, hF⟩) ?_
  rintro n227 a w1 ⟨s229, v230, S232, S233, v234, ha, hst, hrd231, hl228⟩
  rcases n227 with _ | n227
  ·exact (loop_zero hl228).elim
  refine CW.go ?_ ha
  obtain ⟨l235, a236, c237, rfl⟩ := hrd231.len
  obtain ⟨l238, a239, c240, rfl⟩ := hst.len 2 rfl
  refine CW.block (rg ?_)
  refine pu 1 [(22, Pt b59)] ?_
  obtain ⟨r250, hr251, hl228⟩ := bs hl228
  refine OW.fn rfl rfl rfl rfl (by kernel_rfl) (engine_Machine_Step_ok _ fu (Pt b59) S232 s229.2.1 (Pt b47) S233 s229.2.2.1 r250 hr251 (hst.part [0, 1] rfl) (hT1.give hst [0, 1])) ?_
  rintro e w252 ⟨S254, S255, rfl, hst253⟩
  refine ⟨_, rfl, ?_⟩
  have hst := hst.join (idx := [0, 1]) (rest := [2]) rfl hst253
  refine OW.alloc hst rfl rfl rfl [I 0, I 0, I 0, I 0, U 0, U 0, U 0] (by kernel_rfl) ?_
  intro b256 w257 hst
  refine OW.stB hst 3 rfl rfl rfl rfl rfl (by kernel_rfl) rfl rfl [I r250.1.Kind, I r250.1.Pc, I r250.1.Item.Map, I r250.1.Item.Op, U r250.1.Item.Key, U r250.1.Item.Val, U r250.1.Val] rfl ?_
  intro w258 hst
  refine nx (rg ?_)
  refine pu 1 [(24, .slice a239 (s229.2.2.2).length c240)] ?_
  refine OW.ldN (cs := [I r250.1.Kind, I r250.1.Pc, I r250.1.Item.Map, I r250.1.Item.Op, U r250.1.Item.Key, U r250.1.Item.Val, U r250.1.Val]) rfl rfl rfl rfl (by kernel_rfl) (by kernel_rfl) (hst.blkN 3 rfl 0 7) ?_
  refine OW.row (α := api_Act) (e := 58) (enc := enc_api_Act) (sz := 7) hst rfl rfl rfl [r250.1] rfl (fun _ => rfl) rfl rfl (fun _ => by kernel_rfl) ?_
  intro g268 w269 hst
  obtain ⟨u270, hr271, hl228⟩ := bs hl228
  refine OW.app hst 2 rfl (fun _ => rfl) (fun _ => rfl) rfl rfl rfl rfl rfl rfl (by kernel_rfl) el58 (hst.rd 4 rfl (fun _ => rfl) [] rfl (hst.len 4 rfl).1) (room_le hr271) ?_
  intro v272 w273 hst
  obtain ⟨l274, a275, c276, rfl⟩ := hst.len 2 rfl
  refine pu 1 [(10, .slice a275 ((s229.2.2.2 ++ [r250.1])).length c276)] (nx (CW.block (CW.seq (rg ?_))))
  refine pu 1 [(29, Pt b256)] ?_
  refine OW.ld rfl rfl rfl rfl (by kernel_rfl) (hst.blk 3 rfl rfl) ?_
  refine pu 2 [(28, .bool (r250.1.Kind == 4))] (nx ?_)
  obtain ⟨o279, ho280, hl228⟩ := bs hl228
  refine CW.cutK (fun a w1 => Rep 52 [(2, .slice a236 (s229.1).length c237), (8, Pt b59), (10, .slice a275 ((s229.2.2.2 ++ [r250.1])).length c276), (11, Pt b256), (28, .bool o279)] a ∧ St w (fp []) w1 [itI (R_t69 (Pt b47)) [Pt b59] S254 r250.2.1, itI R_t67 [Pt b47] S255 r250.2.2, rowI (.slice a275 ((s229.2.2.2 ++ [r250.1])).length c276) 58 enc_api_Act 7 (s229.2.2.2 ++ [r250.1]), blkI b256 58 [I r250.1.Kind, I r250.1.Pc, I r250.1.Item.Map, I r250.1.Item.Op, U r250.1.Item.Key, U r250.1.Item.Val, U r250.1.Val]]) ?_ ?_
  ·refine br ((r250.1.Kind == 4)) ho280 (fun ho280 hc281 => ?_) (fun ho280 hc281 => ?_)
   ·refine CW.skip ?_
    obtain rfl := inj ho280
    exact QW.meet (fun a ha => ⟨ha.ag, hst.keep [0, 1, 2, 3] rfl⟩)
   refine CW.region ?_
   refine pu 1 [(32, Pt b256)] ?_
   refine OW.ld rfl rfl rfl rfl (by kernel_rfl) (hst.blk 3 rfl rfl) ?_
   refine pu 2 [(35, .bool (r250.1.Kind == 2))] ?_
   refine OW.split 35 rfl (fun hc282 => ?_) (fun hc282 => ?_)
   ·have ho280 := ite_t ho280 hc282
    refine pu 5 [(28, .bool (((s229.1).length : Int) == 0))] (OW.nil rfl ?_)
    obtain rfl := inj ho280
    exact QW.meet (fun a ha => ⟨ha.ag, hst.keep [0, 1, 2, 3] rfl⟩)
   have ho280 := ite_f ho280 hc282
   refine pu 5 [(28, .bool false)] (OW.nil rfl ?_)
   obtain rfl := inj ho280
   exact QW.meet (fun a ha => ⟨ha.ag, hst.keep [0, 1, 2, 3] rfl⟩)
  rintro a w1 ⟨ha, hst⟩
  refine CW.go ?_ ha
  refine br (o279) hl228 (fun hl228 hc283 => ?_) (fun hl228 hc283 => ?_)
  ·refine rg ?_
   refine pu 3 [(6, .slice a275 ((s229.2.2.2 ++ [r250.1])).length c276), (7, I 0)] (nx (CW.ret (QW.block_ret (QW.block_ret (QW.then_ret (QW.block_ret ?_))))))
   obtain rfl := inj hl228
   refine QW.ret2 rfl rfl rfl ?_
   exact ⟨(.slice a275 ((s229.2.2.2 ++ [r250.1])).length c276), rfl, hst.keep [2] rfl⟩
  refine rg ?_
  refine pu 1 [(42, Pt b256)] ?_
  refine OW.ld rfl rfl rfl rfl (by kernel_rfl) (hst.blk 3 rfl rfl) ?_
  refine pu 2 [(41, .bool (r250.1.Kind == 2))] (nx ?_)
  refine br ((r250.1.Kind == 2)) hl228 (fun hl228 hc284 => ?_) (fun hl228 hc284 => ?_)
  ·refine rg ?_
   refine pu 2 [(45, Pt b59), (46, .slice a236 (s229.1).length c237)] ?_
   obtain ⟨x297, hx298, hl228⟩ := bs hl228
   obtain ⟨g300, o301, c302, hv299⟩ := hrd231.formv (fun _ => ⟨_, rfl⟩) hx298
   refine OW.idx 52 6 rfl rfl rfl rfl hv299 rfl (idx_some hx298).1 (idx_some hx298).2.1 (by kernel_rfl) (by kernel_rfl) ?_
   refine OW.ldN (cs := enc_api_Res x297) rfl rfl rfl rfl (by kernel_rfl) (by kernel_rfl) (hrd231.cellv hst hx298 hv299) ?_
   obtain ⟨r303, hr304, hl228⟩ := bs hl228
   refine OW.fn rfl rfl rfl rfl (by kernel_rfl) (engine_Machine_Answer_ok _ (Pt b59) S254 r250.2.1 x297 (Pt b47) S255 r250.2.2 r303 hr304 (hst.part [0, 1] rfl)) ?_
   rintro e w305 ⟨S307, S308, rfl, hst306⟩
   refine ⟨_, rfl, ?_⟩
   have hst := hst.join (idx := [0, 1]) (rest := [2, 3]) rfl hst306
   refine nx (CW.region ?_)
   refine pu 1 [(50, .slice a236 (s229.1).length c237)] ?_
   obtain ⟨ys312, hcut313, hl228⟩ := bs hl228
   refine OW.op (v := .slice (shd a236 c237 (Int.toNat 1) 6) (ys312).length (c237 - Int.toNat 1)) rfl rfl rfl rfl (fun a ha => suf_run (e := 52) 6 rfl rfl rfl rfl hcut313 (by kernel_rfl) (by kernel_rfl) a _ ha) ?_
   have hp314 := hrd231.part hcut313
   refine pu 1 [(2, .slice (shd a236 c237 (Int.toNat 1) 6) (ys312).length (c237 - Int.toNat 1))] (OW.nil rfl (QW.block_normal (QW.block_normal ?_)))
   exact QW.meet (fun a ha => ⟨n227, Nat.lt_succ_self _, (ys312, r303.2, r250.2.2, (s229.2.2.2 ++ [r250.1])), (.slice (shd a236 c237 (Int.toNat 1) 6) (ys312).length (c237 - Int.toNat 1)), S307, S308, (.slice a275 ((s229.2.2.2 ++ [r250.1])).length c276), ha.ag, hst.keep [0, 1, 2] rfl, hp314, hl228⟩)
  refine CW.skip (QW.block_normal (QW.block_normal ?_))
  exact QW.meet (fun a ha => ⟨n227, Nat.lt_succ_self _, (s229.1, r250.2.1, r250.2.2, (s229.2.2.2 ++ [r250.1])), (.slice a236 (s229.1).length c237), S254, S255, (.slice a275 ((s229.2.2.2 ++ [r250.1])).length c276), ha.ag, hst.keep [0, 1, 2] rfl, hrd231, hl228⟩)
 have hF := ocase_none hF he58
 refine ⟨_, rfl, ?_⟩
 have hst := hst.join (idx := [0]) (rest := [1, 2]) rfl hst51
 refine OA.next trivial ?_
 refine OA.pure [4, 5, 6] [(17, .pointer none), (18, I r48.2.1)] (by kernel_rfl) ?_
 refine OA.act (i := 7) [] (by kernel_rfl) rfl rfl (by kernel_rfl) (by kernel_rfl) ?_
 refine pu 1 [(8, .pointer none)] (OA.next trivial ?_)
 refine OA.act (i := 8) [] (by kernel_rfl) rfl rfl (by kernel_rfl) (by kernel_rfl) ?_
 refine pu 1 [(9, I r48.2.1)] (OA.next trivial ?_)
 refine OA.fin (by kernel_rfl) (by kernel_rfl) (QW.next (CW.seq (rg ?_)))
 refine pu 2 [(20, .bool (r48.2.1 != 0))] (nx ?_)
 refine br ((r48.2.1 != 0)) hF (fun hF hc323 => ?_) (fun hF hc323 => ?_)
 ·refine rg ?_
  refine pu 3 [(6, .slice none 0 0), (7, I r48.2.1)] (nx (CW.ret (QW.then_ret ?_)))
  have hst := hst.nilRow api_Act 58 enc_api_Act 7
  obtain rfl := inj hF
  refine QW.ret2 rfl rfl rfl ?_
  exact ⟨(.slice none 0 0), rfl, hst.keep [3] rfl⟩
 refine CW.skip (QW.next (rg ?_))
 refine pu 1 [(10, .slice none 0 0)] (nx (CW.block ?_))
 refine CW.loop (fun n a w1 => ∃ (s327 : Unit), Rep 52 [(2, .slice a8 (p2).length c9), (8, .pointer none), (10, .slice none 0 0)] a ∧ St w (fp []) w1 [] ∧ loop engine_Trace_l2 n s327 = some r) fu (fun a ha => ⟨(), ha.ag, hst.keep [] rfl, hF⟩) ?_
 rintro n325 a w1 ⟨s327, ha, hst, hl326⟩
 rcases n325 with _ | n325
 ·exact (loop_zero hl326).elim
 refine CW.go ?_ ha
 refine CW.block (rg ?_)
 refine pu 1 [(22, .pointer none)] ?_
 cases hl326
theorem tappetlaw23_WorkerRuns_ok (w : World) (fu : Nat) (v0 : Value) (p0 : List tappetlaw23_Event) (r : Bool) (hF : tappetlaw23_WorkerRuns fu p0 = some r)
    (hst : St w (fp []) w []) (h0 : RdN w (fp []) v0 R_t31.rd 6 p0) (hT0 : Rd w (fp []) (.slice (some ⟨0, 0, none⟩) 23 23) enc_ops_form 2 tab_g0) (hT1 : Rd w (fp []) (.slice (some ⟨1, 0, none⟩) 7 7) enc_sigs_sig 5 tab_g1) :
    Calls Tryd.prog 4 [v0].toArray w (fun e w' => e = .returned (.bool r) ∧ St w (fp []) w' []) := by
 refine CW.start (N := 321) Tryd.func4 rfl rfl rfl ?_
 obtain ⟨l1, a2, c3, rfl⟩ := h0.len
 refine rg ?_
 refine pu 1 [] (nx (CW.seq (rg ?_)))
 obtain ⟨r8, hr9, hF⟩ := bs hF
 refine OW.fn rfl rfl rfl rfl (by kernel_rfl) (tappetlaw23_awake_ok _ fu r8 hr9 (hst.part [] rfl) (hT0.give hst []) (hT1.give hst [])) ?_
 rintro e w10 ⟨rfl, hst11⟩
 refine ⟨_, rfl, ?_⟩
 have hst := hst.join (idx := []) (rest := []) rfl hst11
 refine pu 1 [(32, .bool (!r8))] (nx ?_)
 refine br ((!r8)) hF (fun hF hc12 => ?_) (fun hF hc12 => ?_)
 ·refine rg ?_
  refine pu 1 [(2, .bool false)] (nx (CW.ret (QW.then_ret ?_)))
  obtain rfl := inj hF
  refine QW.ret1 rfl rfl ?_
  exact ⟨rfl, hst.keep [] rfl⟩
 refine CW.skip (QW.next (rg ?_))
 obtain ⟨r20, hr21, hF⟩ := bs hF
 refine OW.fn rfl rfl rfl rfl (by kernel_rfl) (worker_New_ok _ r20 hr21 (hst.part [] rfl)) ?_
 rintro e w22 ⟨v24, S25, rfl, hst23⟩
 refine ⟨_, rfl, ?_⟩
 have hst := hst.join (idx := []) (rest := []) rfl hst23
 obtain ⟨b26, rfl⟩ := hst.fptr 0 rfl
 refine pu 1 [(3, Pt b26)] (nx (CW.seq (rg ?_)))
 refine pu 1 [(4, I 0)] (nx ?_)
 obtain ⟨o5335, ho5336, hF⟩ := bs hF
 refine CW.cutK (fun a w1 => ∃ (t5337 : Unit), o5335 = .inl t5337 ∧ Rep 321 [] a ∧ St w (fp []) w1 []) ?_ ?_
 ·refine CW.block ?_
  refine CW.loop (fun n a w1 => ∃ (s8877 : worker_Worker × Int) (S8878 : List Nat), Rep 321 [(0, .slice a2 (p0).length c3), (3, Pt b26), (4, I s8877.2)] a ∧ St w (fp []) w1 [itI R_t33 [Pt b26] S8878 s8877.1] ∧ loop (tappetlaw23_WorkerRuns_l1 fu p0) n s8877 = some o5335) fu (fun a ha => ⟨(r20, 0), S25, ha.ag, hst.keep [0] rfl, ho5336⟩) ?_
  rintro n8875 a w1 ⟨s8877, S8878, ha, hst, hl8876⟩
  rcases n8875 with _ | n8875
  ·exact (loop_zero hl8876).elim
  refine CW.go ?_ ha
  refine CW.seq (CW.seq ?_)
  refine CW.cutK (fun a w1 => Rep 321 [(0, .slice a2 (p0).length c3), (3, Pt b26), (4, I s8877.2), (41, .bool (decide (s8877.2 < ((p0).length : Int)) && decide (s8877.2 < 40)))] a ∧ St w (fp []) w1 [itI R_t33 [Pt b26] S8878 s8877.1]) ?_ ?_
  ·refine CW.region ?_
   refine pu 5 [(38, .bool (decide (s8877.2 < ((p0).length : Int))))] ?_
   refine OW.split 38 rfl (fun hc8879 => ?_) (fun hc8879 => ?_)
   ·refine pu 3 [(41, .bool (decide (s8877.2 < 40)))] (OW.nil rfl ?_)
    refine QW.say 41 (v := .bool (decide (s8877.2 < ((p0).length : Int)) && decide (s8877.2 < 40))) rfl (by first | (rw [hc8879]; done) | (rw [hc8879]; rfl) | simp [hc8879]) ?_
    exact QW.meet (fun a ha => ⟨ha.ag, hst.keep [0] rfl⟩)
   refine pu 3 [(41, .bool false)] (OW.nil rfl ?_)
   refine QW.say 41 (v := .bool (decide (s8877.2 < ((p0).length : Int)) && decide (s8877.2 < 40))) rfl (by first | (rw [hc8879]; done) | (rw [hc8879]; rfl) | simp [hc8879]) ?_
   exact QW.meet (fun a ha => ⟨ha.ag, hst.keep [0] rfl⟩)
  rintro a w1 ⟨ha, hst⟩
  refine CW.go ?_ ha
  refine br ((decide (s8877.2 < ((p0).length : Int)) && decide (s8877.2 < 40))) hl8876 (fun hl8876 hc8880 => ?_) (fun hl8876 hc8880 => ?_)
  ·refine CW.skip (QW.next (CW.seq (CW.block (rg ?_))))
   refine pu 2 [(44, .slice a2 (p0).length c3), (45, I s8877.2)] ?_
   obtain ⟨x8908, hx8909, hl8876⟩ := bs hl8876
   obtain ⟨g8911, o8912, c8913, cs8914, hv8910, hd8915, hl8916⟩ := h0.formv hx8909
   obtain ⟨_, rfl, ⟨_, _, rfl, ⟨v8917, rfl, h8918⟩, ⟨_, _, rfl, ⟨v8919, rfl, h8920⟩, ⟨v8921, rfl, h8922⟩⟩⟩⟩ := hd8915
   have h8918 : Rd _ _ _ _ _ x8908.M.Maps := h8918
   have h8920 : Rd _ _ _ _ _ x8908.M.Code := h8920
   have h8922 : Rd _ _ _ _ _ x8908.Res := h8922
   obtain ⟨l8923, a8924, c8925, rfl⟩ := h8918.len
   obtain ⟨l8926, a8927, c8928, rfl⟩ := h8920.len
   obtain ⟨l8929, a8930, c8931, rfl⟩ := h8922.len
   refine OW.idx 31 6 rfl rfl rfl rfl hv8910 rfl (idx_some hx8909).1 (idx_some hx8909).2.1 (by kernel_rfl) (by kernel_rfl) ?_
   refine OW.ldN (cs := [I x8908.Hook, U x8908.E.A, U x8908.E.B, .slice a8924 (x8908.M.Maps).length c8925, .slice a8927 (x8908.M.Code).length c8928, .slice a8930 (x8908.Res).length c8931]) rfl rfl rfl rfl (by kernel_rfl) (by kernel_rfl) (fun q u hu => hl8916 q u hu _ _ hst) ?_
   refine OW.alloc hst rfl rfl rfl [I 0, U 0, U 0, .slice none 0 0, .slice none 0 0, .slice none 0 0] (by kernel_rfl) ?_
   intro b8932 w8933 hst
   refine OW.stB hst 1 rfl rfl rfl rfl rfl (by kernel_rfl) rfl rfl [I x8908.Hook, U x8908.E.A, U x8908.E.B, .slice a8924 (x8908.M.Maps).length c8925, .slice a8927 (x8908.M.Code).length c8928, .slice a8930 (x8908.Res).length c8931] rfl ?_
   intro w8934 hst
   refine nx (rg ?_)
   refine pu 1 [(48, Pt b8932)] ?_
   refine OW.ld rfl rfl rfl rfl (by kernel_rfl) (hst.blk 1 rfl rfl) ?_
   refine pu 4 [(6, I ((w64 ((x8908.Hook.tmod 4) + 4)).tmod 4))] (nx (CW.seq ?_))
   obtain ⟨v8935, S8936, v8937, S8938, v8939, S8940, hst⟩ := hst.openD3 0 rfl rfl rfl rfl
   obtain ⟨b8941, rfl⟩ := hst.fptr 2 rfl
   obtain ⟨b8942, rfl⟩ := hst.fptr 3 rfl
   have hst : St _ _ _ [blkI b26 73 [Pt b8941, Pt b8942, I s8877.1.mode_, I s8877.1.job.hook, I s8877.1.job.event.N, U s8877.1.job.event.Event.A, U s8877.1.job.event.Event.B, I s8877.1.job.version, I s8877.1.job.prog, U s8877.1.job.calls, v8939], _, _, _, _] := hst
   refine CW.region ?_
   refine pu 3 [(56, .pointer (some ⟨b26, 1, none⟩))] ?_
   refine OW.ld rfl rfl rfl rfl (by kernel_rfl) (hst.blk 0 rfl rfl) ?_
   refine pu 1 [(58, I ((w64 ((x8908.Hook.tmod 4) + 4)).tmod 4))] ?_
   obtain ⟨r8951, hr8952, hl8876⟩ := bs hl8876
   refine OW.fn rfl rfl rfl rfl (by kernel_rfl) (stats_Stats_Of_ok _ (Pt b8942) S8938 s8877.1.Stats ((w64 ((x8908.Hook.tmod 4) + 4)).tmod 4) r8951 hr8952 (hst.part [3] rfl)) ?_
   rintro e w8953 ⟨S8955, rfl, hst8954⟩
   refine ⟨_, rfl, ?_⟩
   have hst := hst.join (idx := [3]) (rest := [0, 1, 2, 4]) rfl hst8954
   refine pu 3 [(60, .agg [U r8951.1.Runs, U r8951.1.Missed, U r8951.1.Steps, U r8951.1.Calls, U r8951.1.Sum].toArray), (61, I r8951.2)] ?_
   refine OW.alloc hst rfl rfl rfl [U 0, U 0, U 0, U 0, U 0] (by kernel_rfl) ?_
   intro b8956 w8957 hst
   refine OW.stB hst 5 rfl rfl rfl rfl rfl (by kernel_rfl) rfl rfl [U r8951.1.Runs, U r8951.1.Missed, U r8951.1.Steps, U r8951.1.Calls, U r8951.1.Sum] rfl ?_
   intro w8958 hst
   refine pu 1 [] (nx (CW.seq (rg ?_)))
   refine pu 5 [(62, Pt b26), (63, I ((w64 ((x8908.Hook.tmod 4) + 4)).tmod 4)), (65, I (w64 (s8877.2 + 1))), (66, .pointer (some ⟨b8932, 1, none⟩))] ?_
   refine OW.ldN (cs := [U x8908.E.A, U x8908.E.B]) rfl rfl rfl rfl (by kernel_rfl) (by kernel_rfl) (hst.blkN 2 rfl 1 2) ?_
   refine pu 1 [(68, .agg [I (w64 (s8877.2 + 1)), U x8908.E.A, U x8908.E.B].toArray)] ?_
   obtain ⟨S8965, hst⟩ := hst.shutD3 R_t73 rfl 1 3 0 4 [2, 5] rfl rfl rfl rfl rfl s8877.1 rfl rfl
   obtain ⟨r8966, hr8967, hl8876⟩ := bs hl8876
   refine OW.fn rfl rfl rfl rfl (by kernel_rfl) (worker_Worker_Take_ok _ (Pt b26) S8965 s8877.1 ((w64 ((x8908.Hook.tmod 4) + 4)).tmod 4) (api_Queued.mk (w64 (s8877.2 + 1)) x8908.E) r8966 hr8967 (hst.part [2] rfl)) ?_
   rintro e w8968 ⟨S8970, rfl, hst8969⟩
   refine ⟨_, rfl, ?_⟩
   have hst := hst.join (idx := [2]) (rest := [0, 1]) rfl hst8969
   refine pu 1 [(70, .bool (r8966.1 != 0))] (nx ?_)
   refine br ((r8966.1 != 0)) hl8876 (fun hl8876 hc8971 => ?_) (fun hl8876 hc8971 => ?_)
   ·refine rg ?_
    refine pu 1 [(2, .bool false)] (nx (CW.ret (QW.then_ret (QW.block_ret (QW.then_ret (QW.then_ret (QW.block_ret (QW.then_ret ?_))))))))
    obtain rfl := inj hl8876
    obtain rfl := inj hF
    refine QW.ret1 rfl rfl ?_
    exact ⟨rfl, hst.keep [] rfl⟩
   refine CW.skip (QW.next (rg ?_))
   refine pu 1 [(72, .pointer (some ⟨b8932, 3, none⟩))] ?_
   refine OW.ldN (cs := [.slice a8924 (x8908.M.Maps).length c8925, .slice a8927 (x8908.M.Code).length c8928]) rfl rfl rfl rfl (by kernel_rfl) (by kernel_rfl) (hst.blkN 1 rfl 3 2) ?_
   obtain ⟨r9006, hr9007, hl8876⟩ := bs hl8876
   refine OW.fn rfl rfl rfl rfl (by kernel_rfl) (tappetlaw23_copied_ok _ (.slice a8924 (x8908.M.Maps).length c8925) (.slice a8927 (x8908.M.Code).length c8928) x8908.M r9006 hr9007 (hst.part [] rfl) (h8918.give hst []) (h8920.give hst [])) ?_
   rintro e w9008 ⟨v9010, v9011, rfl, hst9009⟩
   refine ⟨_, rfl, ?_⟩
   have hst := hst.join (idx := []) (rest := [0, 1, 2]) rfl hst9009
   obtain ⟨l9030, a9031, c9032, rfl⟩ := hst.len 0 rfl
   obtain ⟨l9033, a9034, c9035, rfl⟩ := hst.len 1 rfl
   obtain ⟨r9036, hr9037, hl8876⟩ := bs hl8876
   refine OW.fn rfl rfl rfl rfl (by kernel_rfl) (judge_Judge_ok _ _ _ fu (.slice a9031 (r9006.Maps).length c9032) (.slice a9034 (r9006.Code).length c9035) r9006 r9036 hr9037 (hst.part [] rfl) (Bor.refl _ _) (hst.rd 0 rfl (fun _ => rfl) [] rfl (hst.len 0 rfl).1) (hst.rd 1 rfl (fun _ => rfl) [] rfl (hst.len 1 rfl).1) (hT0.give hst []) (hT1.give hst [])) ?_
   rintro e w9038 ⟨rfl, hst9039⟩
   refine ⟨_, rfl, ?_⟩
   have hst := hst.join (idx := []) (rest := [0, 1, 2, 3, 4]) rfl hst9039
   refine pu 5 [(10, I r9036.2)] (nx (CW.seq (rg ?_)))
   refine pu 5 [(78, Pt b26), (80, I (w64 (s8877.2 + 5))), (81, I s8877.2), (82, .pointer (some ⟨b8932, 3, none⟩))] ?_
   refine OW.ldN (cs := [.slice a8924 (x8908.M.Maps).length c8925, .slice a8927 (x8908.M.Code).length c8928]) rfl rfl rfl rfl (by kernel_rfl) (by kernel_rfl) (hst.blkN 3 rfl 3 2) ?_
   obtain ⟨r9075, hr9076, hl8876⟩ := bs hl8876
   refine OW.fn rfl rfl rfl rfl (by kernel_rfl) (tappetlaw23_copied_ok _ (.slice a8924 (x8908.M.Maps).length c8925) (.slice a8927 (x8908.M.Code).length c8928) x8908.M r9075 hr9076 (hst.part [] rfl) (h8918.give hst []) (h8920.give hst [])) ?_
   rintro e w9077 ⟨v9079, v9080, rfl, hst9078⟩
   refine ⟨_, rfl, ?_⟩
   have hst := hst.join (idx := []) (rest := [0, 1, 2, 3, 4]) rfl hst9078
   obtain ⟨l9099, a9100, c9101, rfl⟩ := hst.len 0 rfl
   obtain ⟨l9102, a9103, c9104, rfl⟩ := hst.len 1 rfl
   obtain ⟨r9105, hr9106, hl8876⟩ := bs hl8876
   refine OW.fn rfl rfl rfl rfl (by kernel_rfl) (worker_Worker_Enter_ok _ fu (Pt b26) S8970 r8966.2 (w64 (s8877.2 + 5)) s8877.2 (.slice a9100 (r9075.Maps).length c9101) (.slice a9103 (r9075.Code).length c9104) r9075 r9105 hr9106 (hst.part [4] rfl) (hst.rd 0 rfl (fun _ => rfl) [4] rfl (hst.len 0 rfl).1) (hst.rd 1 rfl (fun _ => rfl) [4] rfl (hst.len 1 rfl).1) (hT0.give hst [4]) (hT1.give hst [4])) ?_
   rintro e w9107 ⟨S9109, rfl, hst9108⟩
   refine ⟨_, rfl, ?_⟩
   have hst := hst.join (idx := [4]) (rest := [0, 1, 2, 3, 5, 6]) rfl hst9108
   refine pu 2 [(87, .bool (r9105.1 != r9036.2))] (nx ?_)
   refine br ((r9105.1 != r9036.2)) hl8876 (fun hl8876 hc9110 => ?_) (fun hl8876 hc9110 => ?_)
   ·refine rg ?_
    refine pu 1 [(2, .bool false)] (nx (CW.ret (QW.then_ret (QW.block_ret (QW.then_ret (QW.then_ret (QW.block_ret (QW.then_ret ?_))))))))
    obtain rfl := inj hl8876
    obtain rfl := inj hF
    refine QW.ret1 rfl rfl ?_
    exact ⟨rfl, hst.keep [] rfl⟩
   refine CW.skip (QW.next (CW.seq (rg ?_)))
   refine pu 2 [(89, .bool (r9036.2 != 0))] (nx ?_)
   refine br ((r9036.2 != 0)) hl8876 (fun hl8876 hc9111 => ?_) (fun hl8876 hc9111 => ?_)
   ·refine CW.seq ?_
    obtain ⟨v9112, S9113, v9114, S9115, v9116, S9117, hst⟩ := hst.openD3 0 rfl rfl rfl rfl
    obtain ⟨b9118, rfl⟩ := hst.fptr 7 rfl
    obtain ⟨b9119, rfl⟩ := hst.fptr 8 rfl
    have hst : St _ _ _ [blkI b26 73 [Pt b9118, Pt b9119, I r9105.2.mode_, I r9105.2.job.hook, I r9105.2.job.event.N, U r9105.2.job.event.Event.A, U r9105.2.job.event.Event.B, I r9105.2.job.version, I r9105.2.job.prog, U r9105.2.job.calls, v9116], _, _, _, _, _, _, _, _, _] := hst
    refine CW.region ?_
    refine pu 3 [(93, .pointer (some ⟨b26, 1, none⟩))] ?_
    refine OW.ld rfl rfl rfl rfl (by kernel_rfl) (hst.blk 0 rfl rfl) ?_
    refine pu 1 [(95, I ((w64 ((x8908.Hook.tmod 4) + 4)).tmod 4))] ?_
    obtain ⟨r9128, hr9129, hl8876⟩ := bs hl8876
    refine OW.fn rfl rfl rfl rfl (by kernel_rfl) (stats_Stats_Of_ok _ (Pt b9119) S9115 r9105.2.Stats ((w64 ((x8908.Hook.tmod 4) + 4)).tmod 4) r9128 hr9129 (hst.part [8] rfl)) ?_
    rintro e w9130 ⟨S9132, rfl, hst9131⟩
    refine ⟨_, rfl, ?_⟩
    have hst := hst.join (idx := [8]) (rest := [0, 1, 2, 3, 4, 5, 6, 7, 9]) rfl hst9131
    refine pu 3 [(97, .agg [U r9128.1.Runs, U r9128.1.Missed, U r9128.1.Steps, U r9128.1.Calls, U r9128.1.Sum].toArray), (98, I r9128.2)] ?_
    refine OW.alloc hst rfl rfl rfl [U 0, U 0, U 0, U 0, U 0] (by kernel_rfl) ?_
    intro b9133 w9134 hst
    refine OW.stB hst 10 rfl rfl rfl rfl rfl (by kernel_rfl) rfl rfl [U r9128.1.Runs, U r9128.1.Missed, U r9128.1.Steps, U r9128.1.Calls, U r9128.1.Sum] rfl ?_
    intro w9135 hst
    refine pu 1 [] (nx (CW.seq (CW.seq ?_)))
    obtain ⟨o9151, ho9152, hl8876⟩ := bs hl8876
    refine CW.cutK (fun a w1 => ∃ (S9150 : List Nat), Rep 321 [(0, .slice a2 (p0).length c3), (3, Pt b26), (4, I s8877.2), (6, I ((w64 ((x8908.Hook.tmod 4) + 4)).tmod 4)), (7, Pt b8956), (11, Pt b9133), (111, .bool o9151.2)] a ∧ St w (fp []) w1 [itI R_t33 [Pt b26] S9150 o9151.1, blkI b8956 64 [U r8951.1.Runs, U r8951.1.Missed, U r8951.1.Steps, U r8951.1.Calls, U r8951.1.Sum], blkI b9133 64 [U r9128.1.Runs, U r9128.1.Missed, U r9128.1.Steps, U r9128.1.Calls, U r9128.1.Sum]]) ?_ ?_
    ·refine CW.region ?_
     refine OW.ldN (cs := [U r9128.1.Runs, U r9128.1.Missed, U r9128.1.Steps, U r9128.1.Calls, U r9128.1.Sum]) rfl rfl rfl rfl (by kernel_rfl) (by kernel_rfl) (hst.blkN 10 rfl 0 5) ?_
     refine OW.ldN (cs := [U r8951.1.Runs, U r8951.1.Missed, U r8951.1.Steps, U r8951.1.Calls, U r8951.1.Sum]) rfl rfl rfl rfl (by kernel_rfl) (by kernel_rfl) (hst.blkN 7 rfl 0 5) ?_
     refine OW.op (v := .bool (!((r9128.1.Runs == r8951.1.Runs) && ((r9128.1.Missed == r8951.1.Missed) && ((r9128.1.Steps == r8951.1.Steps) && ((r9128.1.Calls == r8951.1.Calls) && ((r9128.1.Sum == r8951.1.Sum) && true))))))) rfl rfl rfl rfl (fun a ha => sneq_run rfl rfl rfl (by kernel_rfl) (by kernel_rfl) a _ ha) ?_
     refine pu 1 [(102, .bool (!((r9128.1.Runs == r8951.1.Runs) && ((r9128.1.Missed == r8951.1.Missed) && ((r9128.1.Steps == r8951.1.Steps) && ((r9128.1.Calls == r8951.1.Calls) && ((r9128.1.Sum == r8951.1.Sum) && true)))))))] ?_
     refine OW.split 102 rfl (fun hc9153 => ?_) (fun hc9153 => ?_)
     ·have ho9152 := ite_t ho9152 hc9153
      refine pu 9 [(111, .bool true)] (OW.nil rfl ?_)
      obtain ⟨S9154, hst⟩ := hst.shutD3 R_t73 rfl 1 8 0 9 [2, 3, 4, 5, 6, 7, 10] rfl rfl rfl rfl rfl r9105.2 rfl rfl
      obtain rfl := inj ho9152
      exact QW.meet (fun a ha => ⟨S9154, ha.ag, hst.keep [7, 5, 6] rfl⟩)
     have ho9152 := ite_f ho9152 hc9153
     refine pu 1 [(103, Pt b26)] ?_
     obtain ⟨S9155, hst⟩ := hst.shutD3 R_t73 rfl 1 8 0 9 [2, 3, 4, 5, 6, 7, 10] rfl rfl rfl rfl rfl r9105.2 rfl rfl
     obtain ⟨r9156, hr9157, ho9152⟩ := bs ho9152
     refine OW.fn rfl rfl rfl rfl (by kernel_rfl) (worker_Worker_Mode_ok _ (Pt b26) S9155 r9105.2 r9156 hr9157 (hst.part [7] rfl)) ?_
     rintro e w9158 ⟨S9160, rfl, hst9159⟩
     refine ⟨_, rfl, ?_⟩
     have hst := hst.join (idx := [7]) (rest := [0, 1, 2, 3, 4, 5, 6]) rfl hst9159
     refine pu 3 [(107, .bool (r9156 != 1))] ?_
     refine OW.split 107 rfl (fun hc9161 => ?_) (fun hc9161 => ?_)
     ·have ho9152 := ite_t ho9152 hc9161
      refine pu 4 [(111, .bool true)] (OW.nil rfl ?_)
      obtain rfl := inj ho9152
      exact QW.meet (fun a ha => ⟨S9160, ha.ag, hst.keep [0, 6, 7] rfl⟩)
     have ho9152 := ite_f ho9152 hc9161
     refine pu 1 [(108, Pt b26)] ?_
     obtain ⟨r9162, hr9163, ho9152⟩ := bs ho9152
     refine OW.fn rfl rfl rfl rfl (by kernel_rfl) (worker_Worker_Skip_ok _ (Pt b26) S9160 r9105.2 r9162 hr9163 (hst.part [0] rfl)) ?_
     rintro e w9164 ⟨S9166, rfl, hst9165⟩
     refine ⟨_, rfl, ?_⟩
     have hst := hst.join (idx := [0]) (rest := [1, 2, 3, 4, 5, 6, 7]) rfl hst9165
     refine pu 2 [(111, .bool (r9162.1 != 0))] (OW.nil rfl ?_)
     obtain rfl := inj ho9152
     exact QW.meet (fun a ha => ⟨S9166, ha.ag, hst.keep [0, 6, 7] rfl⟩)
    rintro a w1 ⟨S9150, ha, hst⟩
    refine CW.go ?_ ha
    refine br (o9151.2) hl8876 (fun hl8876 hc9167 => ?_) (fun hl8876 hc9167 => ?_)
    ·refine rg ?_
     refine pu 1 [(2, .bool false)] (nx (CW.ret (QW.then_ret (QW.then_ret (QW.block_ret (QW.then_ret (QW.then_ret (QW.block_ret (QW.then_ret ?_)))))))))
     obtain rfl := inj hl8876
     obtain rfl := inj hF
     refine QW.ret1 rfl rfl ?_
     exact ⟨rfl, hst.keep [] rfl⟩
    refine CW.skip (QW.next (CW.seq ?_))
    obtain ⟨v9168, S9169, v9170, S9171, v9172, S9173, hst⟩ := hst.openD3 0 rfl rfl rfl rfl
    obtain ⟨b9174, rfl⟩ := hst.fptr 3 rfl
    obtain ⟨b9175, rfl⟩ := hst.fptr 4 rfl
    have hst : St _ _ _ [blkI b26 73 [Pt b9174, Pt b9175, I o9151.1.mode_, I o9151.1.job.hook, I o9151.1.job.event.N, U o9151.1.job.event.Event.A, U o9151.1.job.event.Event.B, I o9151.1.job.version, I o9151.1.job.prog, U o9151.1.job.calls, v9172], _, _, _, _, _] := hst
    refine CW.region ?_
    refine pu 3 [(115, .pointer (some ⟨b26, 1, none⟩))] ?_
    refine OW.ld rfl rfl rfl rfl (by kernel_rfl) (hst.blk 0 rfl rfl) ?_
    refine pu 1 [(117, I ((w64 ((x8908.Hook.tmod 4) + 4)).tmod 4))] ?_
    obtain ⟨r9182, hr9183, hl8876⟩ := bs hl8876
    refine OW.fn rfl rfl rfl rfl (by kernel_rfl) (stats_Stats_Of_ok _ (Pt b9175) S9171 o9151.1.Stats ((w64 ((x8908.Hook.tmod 4) + 4)).tmod 4) r9182 hr9183 (hst.part [4] rfl)) ?_
    rintro e w9184 ⟨S9186, rfl, hst9185⟩
    refine ⟨_, rfl, ?_⟩
    have hst := hst.join (idx := [4]) (rest := [0, 1, 2, 3, 5]) rfl hst9185
    refine pu 3 [(119, .agg [U r9182.1.Runs, U r9182.1.Missed, U r9182.1.Steps, U r9182.1.Calls, U r9182.1.Sum].toArray)] ?_
    refine OW.stB hst 3 rfl rfl rfl rfl rfl (by kernel_rfl) rfl rfl [U r9182.1.Runs, U r9182.1.Missed, U r9182.1.Steps, U r9182.1.Calls, U r9182.1.Sum] rfl ?_
    intro w9187 hst
    refine nx (rg ?_)
    refine pu 1 [(121, .pointer (some ⟨b8956, 1, none⟩))] ?_
    refine OW.ld rfl rfl rfl rfl (by kernel_rfl) (hst.blk 2 rfl rfl) ?_
    refine pu 2 [(123, U (wu64 (r8951.1.Missed + 1))), (124, .pointer (some ⟨b8956, 1, none⟩))] ?_
    refine OW.stB hst 2 rfl rfl rfl rfl rfl (by kernel_rfl) rfl rfl [U r8951.1.Runs, U (wu64 (r8951.1.Missed + 1)), U r8951.1.Steps, U r8951.1.Calls, U r8951.1.Sum] rfl ?_
    intro w9189 hst
    refine nx (CW.seq (rg ?_))
    refine OW.ldN (cs := [U r9182.1.Runs, U r9182.1.Missed, U r9182.1.Steps, U r9182.1.Calls, U r9182.1.Sum]) rfl rfl rfl rfl (by kernel_rfl) (by kernel_rfl) (hst.blkN 3 rfl 0 5) ?_
    refine OW.ldN (cs := [U r8951.1.Runs, U (wu64 (r8951.1.Missed + 1)), U r8951.1.Steps, U r8951.1.Calls, U r8951.1.Sum]) rfl rfl rfl rfl (by kernel_rfl) (by kernel_rfl) (hst.blkN 2 rfl 0 5) ?_
    refine OW.op (v := .bool (!((r9182.1.Runs == r8951.1.Runs) && ((r9182.1.Missed == (wu64 (r8951.1.Missed + 1))) && ((r9182.1.Steps == r8951.1.Steps) && ((r9182.1.Calls == r8951.1.Calls) && ((r9182.1.Sum == r8951.1.Sum) && true))))))) rfl rfl rfl rfl (fun a ha => sneq_run rfl rfl rfl (by kernel_rfl) (by kernel_rfl) a _ ha) (nx ?_)
    refine br ((!((r9182.1.Runs == r8951.1.Runs) && ((r9182.1.Missed == (wu64 (r8951.1.Missed + 1))) && ((r9182.1.Steps == r8951.1.Steps) && ((r9182.1.Calls == r8951.1.Calls) && ((r9182.1.Sum == r8951.1.Sum) && true))))))) hl8876 (fun hl8876 hc9190 => ?_) (fun hl8876 hc9190 => ?_)
    ·refine rg ?_
     refine pu 1 [(2, .bool false)] (nx (CW.ret (QW.then_ret (QW.then_ret (QW.block_ret (QW.then_ret (QW.then_ret (QW.block_ret (QW.then_ret ?_)))))))))
     obtain rfl := inj hl8876
     obtain rfl := inj hF
     refine QW.ret1 rfl rfl ?_
     exact ⟨rfl, hst.keep [] rfl⟩
    refine CW.skip (QW.next ?_)
    refine CW.exit (QW.then_exit ?_)
    refine QW.block_here (QW.next (CW.region ?_))
    refine pu 3 [(4, I (w64 (s8877.2 + 1)))] (OW.nil rfl ?_)
    obtain ⟨S9191, hst⟩ := hst.shutD3 R_t73 rfl 1 4 0 5 [2, 3] rfl rfl rfl rfl rfl o9151.1 rfl rfl
    exact QW.meet (fun a ha => ⟨n8875, Nat.lt_succ_self _, (o9151.1, w64 (s8877.2 + 1)), S9191, ha.ag, hst.keep [2] rfl, hl8876⟩)
   refine CW.skip (QW.next (rg ?_))
   refine pu 1 [(13, .bool false)] (nx (CW.seq (rg ?_)))
   refine pu 1 [(14, I 0)] (nx ?_)
   obtain ⟨o9242, ho9243, hl8876⟩ := bs hl8876
   refine CW.cutK (fun a w1 => Rep 321 [(0, .slice a2 (p0).length c3), (3, Pt b26), (4, I s8877.2), (5, Pt b8932), (6, I ((w64 ((x8908.Hook.tmod 4) + 4)).tmod 4)), (7, Pt b8956), (13, .bool o9242)] a ∧ St w (fp []) w1 [itI R_t33 [Pt b26] S9109 r9105.2, blkI b8932 31 [I x8908.Hook, U x8908.E.A, U x8908.E.B, .slice a8924 (x8908.M.Maps).length c8925, .slice a8927 (x8908.M.Code).length c8928, .slice a8930 (x8908.Res).length c8931], blkI b8956 64 [U r8951.1.Runs, U r8951.1.Missed, U r8951.1.Steps, U r8951.1.Calls, U r8951.1.Sum]]) ?_ ?_
   ·refine CW.block ?_
    refine CW.loop (fun n a w1 => ∃ (i9279 : Nat) (s9278 : Bool), i9279 + n = (x8908.M.Code).length ∧ Rep 321 [(0, .slice a2 (p0).length c3), (3, Pt b26), (4, I s8877.2), (5, Pt b8932), (6, I ((w64 ((x8908.Hook.tmod 4) + 4)).tmod 4)), (7, Pt b8956), (13, .bool s9278), (14, I (i9279 : Int))] a ∧ St w (fp []) w1 [itI R_t33 [Pt b26] S9109 r9105.2, blkI b8932 31 [I x8908.Hook, U x8908.E.A, U x8908.E.B, .slice a8924 (x8908.M.Maps).length c8925, .slice a8927 (x8908.M.Code).length c8928, .slice a8930 (x8908.Res).length c8931], blkI b8956 64 [U r8951.1.Runs, U r8951.1.Missed, U r8951.1.Steps, U r8951.1.Calls, U r8951.1.Sum]] ∧ forN (tappetlaw23_WorkerRuns_l2 x8908) (fun (s9278 : Bool) => s9278) n i9279 s9278 = some o9242) (x8908.M.Code).length (fun a ha => ⟨0, false, Nat.zero_add _, ha.ag, hst.keep [0, 5, 6] rfl, ho9243⟩) ?_
    rintro n9276 a w1 ⟨i9279, s9278, hi9280, ha, hst, hl9277⟩
    refine CW.go ?_ ha
    refine CW.seq (rg ?_)
    refine pu 3 [(128, I (i9279 : Int)), (130, .pointer (some ⟨b8932, 4, none⟩))] ?_
    refine OW.ld rfl rfl rfl rfl (by kernel_rfl) (hst.blk 1 rfl rfl) ?_
    refine pu 2 [(133, .bool (decide ((i9279 : Int) < ((x8908.M.Code).length : Int))))] (nx ?_)
    rcases bft (decide ((i9279 : Int) < ((x8908.M.Code).length : Int))) with hc9281 | hc9281
    ·rcases n9276 with _ | n9276
     ·exact (cnt0 hi9280 hc9281).elim
     refine CW.cond_t rfl hc9281 (CW.skip (QW.next (CW.seq (CW.block (CW.region ?_)))))
     refine pu 2 [(137, .bool s9278)] ?_
     refine OW.split 137 rfl (fun hc9282 => ?_) (fun hc9282 => ?_)
     ·have hl9277 := ite_t hl9277 hc9282
      refine pu 20 [(13, .bool true)] (OW.nil rfl (QW.block_normal (QW.next (CW.region ?_))))
      refine pu 3 [(14, I (w64 ((i9279 : Int) + 1)))] (OW.nil rfl ?_)
      refine QW.say 14 rfl (congrArg (Value.int .i64) (w64_cnt hc9281 l8926)) ?_
      exact QW.meet (fun a ha => ⟨n9276, Nat.lt_succ_self _, i9279 + 1, true, cnt_next hi9280, ha.ag, hst.keep [0, 1, 2] rfl, hl9277⟩)
     have hl9277 := ite_f hl9277 hc9282
     refine pu 2 [(139, .pointer (some ⟨b8932, 4, none⟩))] ?_
     refine OW.ld rfl rfl rfl rfl (by kernel_rfl) (hst.blk 1 rfl rfl) ?_
     refine pu 1 [(141, I (i9279 : Int))] ?_
     obtain ⟨x9283, hx9284, hl9277⟩ := bs hl9277
     obtain ⟨g9286, o9287, c9288, hv9285⟩ := h8920.formv (fun _ => ⟨_, rfl⟩) hx9284
     refine OW.idx 76 5 rfl rfl rfl rfl hv9285 rfl (idx_some hx9284).1 (idx_some hx9284).2.1 (by kernel_rfl) (by kernel_rfl) ?_
     refine pu 1 [(143, .pointer (some ⟨g9286, o9287 + Int.toNat (i9279 : Int) * 5, none⟩))] ?_
     refine OW.ld rfl rfl rfl rfl (by kernel_rfl) (h8920.cellv hst hx9284 hv9285 0 _ rfl) ?_
     refine pu 2 [(146, .bool (x9283.Op == 21))] ?_
     refine OW.split 146 rfl (fun hc9289 => ?_) (fun hc9289 => ?_)
     ·have hl9277 := ite_t hl9277 hc9289
      refine pu 2 [(148, .pointer (some ⟨b8932, 4, none⟩))] ?_
      refine OW.ld rfl rfl rfl rfl (by kernel_rfl) (hst.blk 1 rfl rfl) ?_
      refine pu 1 [(150, I (i9279 : Int))] ?_
      obtain ⟨g9291, o9292, c9293, hv9290⟩ := h8920.formv (fun _ => ⟨_, rfl⟩) hx9284
      refine OW.idx 76 5 rfl rfl rfl rfl hv9290 rfl (idx_some hx9284).1 (idx_some hx9284).2.1 (by kernel_rfl) (by kernel_rfl) ?_
      refine pu 1 [(152, .pointer (some ⟨g9291, o9292 + Int.toNat (i9279 : Int) * 5 + 4, none⟩))] ?_
      refine OW.ld rfl rfl rfl rfl (by kernel_rfl) (h8920.cellv hst hx9284 hv9290 4 _ rfl) ?_
      refine pu 4 [(13, .bool (x9283.Imm == 5))] (OW.nil rfl (QW.block_normal (QW.next (CW.region ?_))))
      refine pu 3 [(14, I (w64 ((i9279 : Int) + 1)))] (OW.nil rfl ?_)
      refine QW.say 14 rfl (congrArg (Value.int .i64) (w64_cnt hc9281 l8926)) ?_
      exact QW.meet (fun a ha => ⟨n9276, Nat.lt_succ_self _, i9279 + 1, (x9283.Imm == 5), cnt_next hi9280, ha.ag, hst.keep [0, 1, 2] rfl, hl9277⟩)
     have hl9277 := ite_f hl9277 hc9289
     refine pu 11 [(13, .bool false)] (OW.nil rfl (QW.block_normal (QW.next (CW.region ?_))))
     refine pu 3 [(14, I (w64 ((i9279 : Int) + 1)))] (OW.nil rfl ?_)
     refine QW.say 14 rfl (congrArg (Value.int .i64) (w64_cnt hc9281 l8926)) ?_
     exact QW.meet (fun a ha => ⟨n9276, Nat.lt_succ_self _, i9279 + 1, false, cnt_next hi9280, ha.ag, hst.keep [0, 1, 2] rfl, hl9277⟩)
    rcases n9276 with _ | n9276
    ·refine CW.cond_f rfl hc9281 ?_
     refine CW.exit (QW.then_exit (QW.then_exit ?_))
     refine QW.block_here ?_
     obtain rfl := inj hl9277
     exact QW.meet (fun a ha => ⟨ha.ag, hst.keep [0, 1, 2] rfl⟩)
    exact (cnt1 hi9280 hc9281).elim
   rintro a w1 ⟨ha, hst⟩
   refine CW.go ?_ ha
   refine rg ?_
   refine pu 1 [(15, .slice none 0 0)] (nx (CW.seq (rg ?_)))
   refine pu 1 [(16, I 0)] (nx ?_)
   obtain ⟨o9484, ho9485, hl8876⟩ := bs hl8876
   refine CW.cutK (fun a w1 => ∃ (v9483 : Value), Rep 321 [(0, .slice a2 (p0).length c3), (3, Pt b26), (4, I s8877.2), (5, Pt b8932), (6, I ((w64 ((x8908.Hook.tmod 4) + 4)).tmod 4)), (7, Pt b8956), (13, .bool o9242), (15, v9483)] a ∧ St w (fp []) w1 [itI R_t33 [Pt b26] S9109 r9105.2, blkI b8932 31 [I x8908.Hook, U x8908.E.A, U x8908.E.B, .slice a8924 (x8908.M.Maps).length c8925, .slice a8927 (x8908.M.Code).length c8928, .slice a8930 (x8908.Res).length c8931], blkI b8956 64 [U r8951.1.Runs, U r8951.1.Missed, U r8951.1.Steps, U r8951.1.Calls, U r8951.1.Sum], rowI v9483 52 enc_api_Res 6 o9484]) ?_ ?_
   ·refine CW.block ?_
    have hst := hst.nilRow api_Res 52 enc_api_Res 6
    refine CW.loop (fun n a w1 => ∃ (i9613 : Nat) (s9611 : (List api_Res)) (v9612 : Value), i9613 + n = 256 ∧ Rep 321 [(0, .slice a2 (p0).length c3), (3, Pt b26), (4, I s8877.2), (5, Pt b8932), (6, I ((w64 ((x8908.Hook.tmod 4) + 4)).tmod 4)), (7, Pt b8956), (13, .bool o9242), (15, v9612), (16, I (i9613 : Int))] a ∧ St w (fp []) w1 [itI R_t33 [Pt b26] S9109 r9105.2, blkI b8932 31 [I x8908.Hook, U x8908.E.A, U x8908.E.B, .slice a8924 (x8908.M.Maps).length c8925, .slice a8927 (x8908.M.Code).length c8928, .slice a8930 (x8908.Res).length c8931], blkI b8956 64 [U r8951.1.Runs, U r8951.1.Missed, U r8951.1.Steps, U r8951.1.Calls, U r8951.1.Sum], rowI v9612 52 enc_api_Res 6 s9611] ∧ forN (tappetlaw23_WorkerRuns_l3 x8908) (fun (s9611 : (List api_Res)) => s9611) n i9613 s9611 = some o9484) 256 (fun a ha => ⟨0, ([] : List api_Res), (.slice none 0 0), Nat.zero_add _, ha.ag, hst.keep [0, 1, 2, 3] rfl, ho9485⟩) ?_
    rintro n9609 a w1 ⟨i9613, s9611, v9612, hi9614, ha, hst, hl9610⟩
    refine CW.go ?_ ha
    obtain ⟨l9615, a9616, c9617, rfl⟩ := hst.len 3 rfl
    refine CW.seq (rg ?_)
    refine pu 2 [(158, .bool (decide ((i9613 : Int) < 256)))] (nx ?_)
    rcases bft (decide ((i9613 : Int) < 256)) with hc9618 | hc9618
    ·rcases n9609 with _ | n9609
     ·exact (cnt0 hi9614 hc9618).elim
     refine CW.cond_t rfl hc9618 (CW.skip (QW.next (CW.seq (CW.block (rg ?_)))))
     refine pu 3 [(163, .agg [I 0, .bool false, U (wu64 (i9613 : Int)), .bool false, U 0, U 0].toArray)] ?_
     refine OW.alloc hst rfl rfl rfl [I 0, .bool false, U 0, .bool false, U 0, U 0] (by kernel_rfl) ?_
     intro b9622 w9623 hst
     refine OW.stB hst 4 rfl rfl rfl rfl rfl (by kernel_rfl) rfl rfl [I 0, .bool false, U (wu64 (i9613 : Int)), .bool false, U 0, U 0] rfl ?_
     intro w9624 hst
     refine nx (CW.seq (rg ?_))
     refine pu 2 [(164, I (i9613 : Int)), (165, .pointer (some ⟨b8932, 5, none⟩))] ?_
     refine OW.ld rfl rfl rfl rfl (by kernel_rfl) (hst.blk 1 rfl rfl) ?_
     refine pu 2 [(168, .bool (decide ((i9613 : Int) < ((x8908.Res).length : Int))))] (nx ?_)
     obtain ⟨o9640, ho9641, hl9610⟩ := bs hl9610
     refine CW.cutK (fun a w1 => Rep 321 [(0, .slice a2 (p0).length c3), (3, Pt b26), (4, I s8877.2), (5, Pt b8932), (6, I ((w64 ((x8908.Hook.tmod 4) + 4)).tmod 4)), (7, Pt b8956), (13, .bool o9242), (15, .slice a9616 (s9611).length c9617), (16, I (i9613 : Int)), (17, Pt b9622)] a ∧ St w (fp []) w1 [itI R_t33 [Pt b26] S9109 r9105.2, blkI b8932 31 [I x8908.Hook, U x8908.E.A, U x8908.E.B, .slice a8924 (x8908.M.Maps).length c8925, .slice a8927 (x8908.M.Code).length c8928, .slice a8930 (x8908.Res).length c8931], blkI b8956 64 [U r8951.1.Runs, U r8951.1.Missed, U r8951.1.Steps, U r8951.1.Calls, U r8951.1.Sum], rowI (.slice a9616 (s9611).length c9617) 52 enc_api_Res 6 s9611, blkI b9622 52 [I o9640.E, .bool o9640.Found, U o9640.Val, .bool o9640.Out, U o9640.OutKey, U o9640.OutVal]]) ?_ ?_
     ·refine br (decide ((i9613 : Int) < ((x8908.Res).length : Int))) ho9641 (fun ho9641 hc9642 => ?_) (fun ho9641 hc9642 => ?_)
      ·refine CW.region ?_
       refine pu 1 [(169, .pointer (some ⟨b8932, 5, none⟩))] ?_
       refine OW.ld rfl rfl rfl rfl (by kernel_rfl) (hst.blk 1 rfl rfl) ?_
       refine pu 1 [(171, I (i9613 : Int))] ?_
       obtain ⟨x9650, hx9651, ho9641⟩ := bs ho9641
       obtain ⟨g9653, o9654, c9655, hv9652⟩ := h8922.formv (fun _ => ⟨_, rfl⟩) hx9651
       refine OW.idx 52 6 rfl rfl rfl rfl hv9652 rfl (idx_some hx9651).1 (idx_some hx9651).2.1 (by kernel_rfl) (by kernel_rfl) ?_
       refine OW.ldN (cs := enc_api_Res x9650) rfl rfl rfl rfl (by kernel_rfl) (by kernel_rfl) (h8922.cellv hst hx9651 hv9652) ?_
       refine OW.stB hst 4 rfl rfl rfl rfl rfl (by kernel_rfl) rfl rfl [I x9650.E, .bool x9650.Found, U x9650.Val, .bool x9650.Out, U x9650.OutKey, U x9650.OutVal] rfl ?_
       intro w9656 hst
       refine OW.nil rfl ?_
       obtain rfl := inj ho9641
       exact QW.meet (fun a ha => ⟨ha.ag, hst.keep [0, 1, 2, 3, 4] rfl⟩)
      refine CW.skip ?_
      obtain rfl := inj ho9641
      exact QW.meet (fun a ha => ⟨ha.ag, hst.keep [0, 1, 2, 3, 4] rfl⟩)
     rintro a w1 ⟨ha, hst⟩
     refine CW.go ?_ ha
     refine CW.region ?_
     refine pu 1 [(174, .slice a9616 (s9611).length c9617)] ?_
     refine OW.ldN (cs := [I o9640.E, .bool o9640.Found, U o9640.Val, .bool o9640.Out, U o9640.OutKey, U o9640.OutVal]) rfl rfl rfl rfl (by kernel_rfl) (by kernel_rfl) (hst.blkN 4 rfl 0 6) ?_
     refine OW.row (α := api_Res) (e := 52) (enc := enc_api_Res) (sz := 6) hst rfl rfl rfl [o9640] rfl (fun _ => rfl) rfl rfl (fun _ => by kernel_rfl) ?_
     intro g9666 w9667 hst
     obtain ⟨u9668, hr9669, hl9610⟩ := bs hl9610
     refine OW.app hst 3 rfl (fun _ => rfl) (fun _ => rfl) rfl rfl rfl rfl rfl rfl (by kernel_rfl) el52 (hst.rd 5 rfl (fun _ => rfl) [] rfl (hst.len 5 rfl).1) (room_le hr9669) ?_
     intro v9670 w9671 hst
     obtain ⟨l9672, a9673, c9674, rfl⟩ := hst.len 3 rfl
     refine pu 1 [(15, .slice a9673 ((s9611 ++ [o9640])).length c9674)] (OW.nil rfl (QW.block_normal (QW.next (CW.region ?_))))
     refine pu 3 [(16, I (w64 ((i9613 : Int) + 1)))] (OW.nil rfl ?_)
     refine QW.say 16 rfl (congrArg (Value.int .i64) (w64_cnt hc9618 (by decide))) ?_
     exact QW.meet (fun a ha => ⟨n9609, Nat.lt_succ_self _, i9613 + 1, (s9611 ++ [o9640]), (.slice a9673 ((s9611 ++ [o9640])).length c9674), cnt_next hi9614, ha.ag, hst.keep [0, 1, 2, 3] rfl, hl9610⟩)
    rcases n9609 with _ | n9609
    ·refine CW.cond_f rfl hc9618 ?_
     refine CW.exit (QW.then_exit (QW.then_exit ?_))
     refine QW.block_here ?_
     obtain rfl := inj hl9610
     exact QW.meet (fun a ha => ⟨(.slice a9616 (s9611).length c9617), ha.ag, hst.keep [0, 1, 2, 3] rfl⟩)
    exact (cnt1 hi9614 hc9618).elim
   rintro a w1 ⟨v9483, ha, hst⟩
   refine CW.go ?_ ha
   obtain ⟨l9677, a9678, c9679, rfl⟩ := hst.len 3 rfl
   refine CW.seq ?_
   refine CW.plan (by kernel_rfl) ?_
   intro w9720 hch9721
   have hst := hst.same hch9721
   refine OA.pure [0] [(179, .pointer (some ⟨b8932, 3, none⟩))] (by kernel_rfl) ?_
   refine OA.ldN (i := 1) (cs := [.slice a8924 (x8908.M.Maps).length c8925, .slice a8927 (x8908.M.Code).length c8928]) rfl (by kernel_rfl) rfl rfl rfl (by kernel_rfl) (by kernel_rfl) (hst.blkN 1 rfl 3 2) ?_
   refine OA.pure [3] [(182, .pointer (some ⟨b8932, 1, none⟩))] (by kernel_rfl) ?_
   refine OA.ldN (i := 4) (cs := [U x8908.E.A, U x8908.E.B]) rfl (by kernel_rfl) rfl rfl rfl (by kernel_rfl) (by kernel_rfl) (hst.blkN 1 rfl 1 2) ?_
   refine OA.pure [5] [(184, .slice a9678 (o9484).length c9679)] (by kernel_rfl) ?_
   refine OA.act (i := 2) [4] (by kernel_rfl) rfl rfl (by kernel_rfl) (by kernel_rfl) ?_
   obtain ⟨r9722, hr9723, hl8876⟩ := bs hl8876
   refine OW.fn rfl rfl rfl rfl (by kernel_rfl) (tappetlaw23_copied_ok _ (.slice a8924 (x8908.M.Maps).length c8925) (.slice a8927 (x8908.M.Code).length c8928) x8908.M r9722 hr9723 (hst.part [] rfl) (h8918.give hst []) (h8920.give hst [])) ?_
   rintro e w9724 ⟨v9726, v9727, rfl, hst9725⟩
   refine ⟨_, rfl, ?_⟩
   have hst := hst.join (idx := []) (rest := [0, 1, 2, 3]) rfl hst9725
   obtain ⟨l9746, a9747, c9748, rfl⟩ := hst.len 0 rfl
   obtain ⟨l9749, a9750, c9751, rfl⟩ := hst.len 1 rfl
   refine OA.next ⟨(hst.blkN 3 rfl 1 2), trivial⟩ ?_
   refine OA.act (i := 6) [] (by kernel_rfl) rfl rfl (by kernel_rfl) (by kernel_rfl) ?_
   obtain ⟨r9752, hr9753, hl8876⟩ := bs hl8876
   refine OW.fn rfl rfl rfl rfl (by kernel_rfl) (engine_Trace_ok _ fu (.slice a9747 (r9722.Maps).length c9748) (.slice a9750 (r9722.Code).length c9751) r9722 x8908.E (.slice a9678 (o9484).length c9679) o9484 r9752 hr9753 (hst.part [] rfl) (hst.rd 0 rfl (fun _ => rfl) [] rfl (hst.len 0 rfl).1) (hst.rd 1 rfl (fun _ => rfl) [] rfl (hst.len 1 rfl).1) (hst.rd 5 rfl (fun _ => rfl) [] rfl (hst.len 5 rfl).1) (hT0.give hst []) (hT1.give hst [])) ?_
   rintro e w9754 ⟨v9756, rfl, hst9755⟩
   refine ⟨_, rfl, ?_⟩
   have hst := hst.join (idx := []) (rest := [0, 1, 2, 3, 4, 5]) rfl hst9755
   obtain ⟨l9757, a9758, c9759, rfl⟩ := hst.len 0 rfl
   refine OA.next trivial ?_
   refine OA.pure [7, 8, 9] [(186, .slice a9758 (r9752.1).length c9759), (187, I r9752.2)] (by kernel_rfl) ?_
   refine OA.act (i := 10) [] (by kernel_rfl) rfl rfl (by kernel_rfl) (by kernel_rfl) ?_
   refine pu 1 [(18, .slice a9758 (r9752.1).length c9759)] (OA.next trivial ?_)
   refine OA.act (i := 11) [] (by kernel_rfl) rfl rfl (by kernel_rfl) (by kernel_rfl) ?_
   refine pu 1 [(19, I r9752.2)] (OA.next trivial ?_)
   refine OA.fin (by kernel_rfl) (by kernel_rfl) (QW.next (rg ?_))
   refine pu 2 [(20, I 0), (21, I 0)] (nx (rg ?_))
   refine pu 1 [(188, .agg [I 0, I 0, I 0, I 0, U 0, U 0, U 0].toArray)] ?_
   refine OW.alloc hst rfl rfl rfl [I 0, I 0, I 0, I 0, U 0, U 0, U 0] (by kernel_rfl) ?_
   intro b9763 w9764 hst
   refine OW.stB hst 7 rfl rfl rfl rfl rfl (by kernel_rfl) rfl rfl [I 0, I 0, I 0, I 0, U 0, U 0, U 0] rfl ?_
   intro w9765 hst
   refine nx (CW.seq ?_)
   obtain ⟨o10171, ho10172, hl8876⟩ := bs hl8876
   refine CW.cutK (fun a w1 => ∃ (t10173 : worker_Worker × Int × Int × api_Act) (S10170 : List Nat), o10171 = .inl t10173 ∧ Rep 321 [(0, .slice a2 (p0).length c3), (3, Pt b26), (4, I s8877.2), (6, I ((w64 ((x8908.Hook.tmod 4) + 4)).tmod 4)), (7, Pt b8956), (20, I t10173.2.1), (21, I t10173.2.2.1), (22, Pt b9763)] a ∧ St w (fp []) w1 [itI R_t33 [Pt b26] S10170 t10173.1, blkI b8956 64 [U r8951.1.Runs, U r8951.1.Missed, U r8951.1.Steps, U r8951.1.Calls, U r8951.1.Sum], blkI b9763 58 [I t10173.2.2.2.Kind, I t10173.2.2.2.Pc, I t10173.2.2.2.Item.Map, I t10173.2.2.2.Item.Op, U t10173.2.2.2.Item.Key, U t10173.2.2.2.Item.Val, U t10173.2.2.2.Val]]) ?_ ?_
   ·refine CW.block ?_
    refine CW.loop (fun n a w1 => ∃ (s10442 : worker_Worker × Int × Int × api_Act) (S10443 : List Nat), Rep 321 [(0, .slice a2 (p0).length c3), (3, Pt b26), (4, I s8877.2), (6, I ((w64 ((x8908.Hook.tmod 4) + 4)).tmod 4)), (7, Pt b8956), (13, .bool o9242), (15, .slice a9678 (o9484).length c9679), (18, .slice a9758 (r9752.1).length c9759), (20, I s10442.2.1), (21, I s10442.2.2.1), (22, Pt b9763)] a ∧ St w (fp []) w1 [itI R_t33 [Pt b26] S10443 s10442.1, blkI b8956 64 [U r8951.1.Runs, U r8951.1.Missed, U r8951.1.Steps, U r8951.1.Calls, U r8951.1.Sum], rowI (.slice a9678 (o9484).length c9679) 52 enc_api_Res 6 o9484, rowI (.slice a9758 (r9752.1).length c9759) 58 enc_api_Act 7 r9752.1, blkI b9763 58 [I s10442.2.2.2.Kind, I s10442.2.2.2.Pc, I s10442.2.2.2.Item.Map, I s10442.2.2.2.Item.Op, U s10442.2.2.2.Item.Key, U s10442.2.2.2.Item.Val, U s10442.2.2.2.Val]] ∧ loop (tappetlaw23_WorkerRuns_l4 fu s8877 o9242 o9484 r9752) n s10442 = some o10171) fu (fun a ha => ⟨(r9105.2, 0, 0, (api_Act.mk 0 0 (api_Item.mk 0 0 0 0) 0)), S9109, ha.ag, hst.keep [3, 5, 6, 0, 7] rfl, ho10172⟩) ?_
    rintro n10440 a w1 ⟨s10442, S10443, ha, hst, hl10441⟩
    rcases n10440 with _ | n10440
    ·exact (loop_zero hl10441).elim
    refine CW.go ?_ ha
    refine CW.seq (CW.seq ?_)
    obtain ⟨o10451, ho10452, hl10441⟩ := bs hl10441
    refine CW.cutK (fun a w1 => ∃ (S10450 : List Nat), Rep 321 [(0, .slice a2 (p0).length c3), (3, Pt b26), (4, I s8877.2), (6, I ((w64 ((x8908.Hook.tmod 4) + 4)).tmod 4)), (7, Pt b8956), (13, .bool o9242), (15, .slice a9678 (o9484).length c9679), (18, .slice a9758 (r9752.1).length c9759), (20, I s10442.2.1), (21, I s10442.2.2.1), (22, Pt b9763), (195, .bool o10451)] a ∧ St w (fp []) w1 [itI R_t33 [Pt b26] S10450 s10442.1, blkI b8956 64 [U r8951.1.Runs, U r8951.1.Missed, U r8951.1.Steps, U r8951.1.Calls, U r8951.1.Sum], rowI (.slice a9678 (o9484).length c9679) 52 enc_api_Res 6 o9484, rowI (.slice a9758 (r9752.1).length c9759) 58 enc_api_Act 7 r9752.1, blkI b9763 58 [I s10442.2.2.2.Kind, I s10442.2.2.2.Pc, I s10442.2.2.2.Item.Map, I s10442.2.2.2.Item.Op, U s10442.2.2.2.Item.Key, U s10442.2.2.2.Item.Val, U s10442.2.2.2.Val]]) ?_ ?_
    ·refine CW.region ?_
     refine pu 3 [(191, .bool (decide (s10442.2.2.1 ≤ 256)))] ?_
     refine OW.split 191 rfl (fun hc10453 => ?_) (fun hc10453 => ?_)
     ·have ho10452 := ite_t ho10452 hc10453
      refine pu 1 [(192, Pt b26)] ?_
      obtain ⟨r10454, hr10455, ho10452⟩ := bs ho10452
      refine OW.fn rfl rfl rfl rfl (by kernel_rfl) (worker_Worker_Mode_ok _ (Pt b26) S10443 s10442.1 r10454 hr10455 (hst.part [0] rfl)) ?_
      rintro e w10456 ⟨S10458, rfl, hst10457⟩
      refine ⟨_, rfl, ?_⟩
      have hst := hst.join (idx := [0]) (rest := [1, 2, 3, 4]) rfl hst10457
      refine pu 2 [(195, .bool (r10454 != 0))] (OW.nil rfl ?_)
      obtain rfl := inj ho10452
      exact QW.meet (fun a ha => ⟨S10458, ha.ag, hst.keep [0, 1, 2, 3, 4] rfl⟩)
     have ho10452 := ite_f ho10452 hc10453
     refine pu 4 [(195, .bool false)] (OW.nil rfl ?_)
     obtain rfl := inj ho10452
     exact QW.meet (fun a ha => ⟨S10443, ha.ag, hst.keep [0, 1, 2, 3, 4] rfl⟩)
    rintro a w1 ⟨S10450, ha, hst⟩
    refine CW.go ?_ ha
    refine br (o10451) hl10441 (fun hl10441 hc10459 => ?_) (fun hl10441 hc10459 => ?_)
    ·refine CW.skip (QW.next (CW.seq (CW.block (rg ?_))))
     refine pu 1 [(199, Pt b26)] ?_
     obtain ⟨r10465, hr10466, hl10441⟩ := bs hl10441
     refine OW.fn rfl rfl rfl rfl (by kernel_rfl) (worker_Worker_Runs_ok _ (Pt b26) S10450 s10442.1 r10465 hr10466 (hst.part [0] rfl)) ?_
     rintro e w10467 ⟨S10469, rfl, hst10468⟩
     refine ⟨_, rfl, ?_⟩
     have hst := hst.join (idx := [0]) (rest := [1, 2, 3, 4]) rfl hst10468
     refine pu 5 [(23, I r10465.1), (24, I r10465.2)] (nx (rg ?_))
     refine pu 1 [(204, Pt b26)] ?_
     obtain ⟨r10478, hr10479, hl10441⟩ := bs hl10441
     refine OW.fn rfl rfl rfl rfl (by kernel_rfl) (worker_Worker_Step_ok _ fu (Pt b26) S10469 s10442.1 r10478 hr10479 (hst.part [0] rfl) (hT1.give hst [0])) ?_
     rintro e w10480 ⟨S10482, rfl, hst10481⟩
     refine ⟨_, rfl, ?_⟩
     have hst := hst.join (idx := [0]) (rest := [1, 2, 3, 4]) rfl hst10481
     refine pu 3 [(206, .agg [I r10478.1.Kind, I r10478.1.Pc, I r10478.1.Item.Map, I r10478.1.Item.Op, U r10478.1.Item.Key, U r10478.1.Item.Val, U r10478.1.Val].toArray), (207, .bool r10478.2.1)] ?_
     refine OW.alloc hst rfl rfl rfl [I 0, I 0, I 0, I 0, U 0, U 0, U 0] (by kernel_rfl) ?_
     intro b10483 w10484 hst
     refine OW.stB hst 5 rfl rfl rfl rfl rfl (by kernel_rfl) rfl rfl [I r10478.1.Kind, I r10478.1.Pc, I r10478.1.Item.Map, I r10478.1.Item.Op, U r10478.1.Item.Key, U r10478.1.Item.Val, U r10478.1.Val] rfl ?_
     intro w10485 hst
     refine pu 1 [(26, .bool r10478.2.1)] (nx (CW.seq (CW.seq ?_)))
     obtain ⟨o10501, ho10502, hl10441⟩ := bs hl10441
     refine CW.cutK (fun a w1 => Rep 321 [(0, .slice a2 (p0).length c3), (3, Pt b26), (4, I s8877.2), (6, I ((w64 ((x8908.Hook.tmod 4) + 4)).tmod 4)), (7, Pt b8956), (13, .bool o9242), (15, .slice a9678 (o9484).length c9679), (18, .slice a9758 (r9752.1).length c9759), (20, I s10442.2.1), (21, I s10442.2.2.1), (22, Pt b9763), (25, Pt b10483), (238, .bool o10501)] a ∧ St w (fp []) w1 [itI R_t33 [Pt b26] S10482 r10478.2.2, blkI b8956 64 [U r8951.1.Runs, U r8951.1.Missed, U r8951.1.Steps, U r8951.1.Calls, U r8951.1.Sum], rowI (.slice a9678 (o9484).length c9679) 52 enc_api_Res 6 o9484, rowI (.slice a9758 (r9752.1).length c9759) 58 enc_api_Act 7 r9752.1, blkI b9763 58 [I s10442.2.2.2.Kind, I s10442.2.2.2.Pc, I s10442.2.2.2.Item.Map, I s10442.2.2.2.Item.Op, U s10442.2.2.2.Item.Key, U s10442.2.2.2.Item.Val, U s10442.2.2.2.Val], blkI b10483 58 [I r10478.1.Kind, I r10478.1.Pc, I r10478.1.Item.Map, I r10478.1.Item.Op, U r10478.1.Item.Key, U r10478.1.Item.Val, U r10478.1.Val]]) ?_ ?_
     ·refine CW.still (by kernel_rfl) (by kernel_rfl) ?_
      intro w10503 hch10504
      have hst := hst.same hch10504
      refine OS.pure 3 [(210, .bool (!r10478.2.1))] rfl (by kernel_rfl) ?_
      refine OS.split 210 rfl (fun hc10505 => ?_) (fun hc10505 => ?_)
      ·have ho10502 := ite_t ho10502 hc10505
       refine OS.pure 28 [(238, .bool true)] rfl (by kernel_rfl) ?_
       refine OS.fin rfl ?_
       obtain rfl := inj ho10502
       exact QW.meet (fun a ha => ⟨ha.ag, hst.keep [0, 1, 2, 3, 4, 5] rfl⟩)
      have ho10502 := ite_f ho10502 hc10505
      refine OS.pure 6 [(216, .bool (r10465.1 != (w64 (s8877.2 + 5))))] rfl (by kernel_rfl) ?_
      refine OS.split 216 rfl (fun hc10506 => ?_) (fun hc10506 => ?_)
      ·have ho10502 := ite_t ho10502 hc10506
       refine OS.pure 22 [(238, .bool true)] rfl (by kernel_rfl) ?_
       refine OS.fin rfl ?_
       obtain rfl := inj ho10502
       exact QW.meet (fun a ha => ⟨ha.ag, hst.keep [0, 1, 2, 3, 4, 5] rfl⟩)
      have ho10502 := ite_f ho10502 hc10506
      refine OS.pure 5 [(221, .bool (r10465.2 != s8877.2))] rfl (by kernel_rfl) ?_
      refine OS.split 221 rfl (fun hc10507 => ?_) (fun hc10507 => ?_)
      ·have ho10502 := ite_t ho10502 hc10507
       refine OS.pure 17 [(238, .bool true)] rfl (by kernel_rfl) ?_
       refine OS.fin rfl ?_
       obtain rfl := inj ho10502
       exact QW.meet (fun a ha => ⟨ha.ag, hst.keep [0, 1, 2, 3, 4, 5] rfl⟩)
      have ho10502 := ite_f ho10502 hc10507
      refine OS.pure 3 [(224, .bool (!o9242))] rfl (by kernel_rfl) ?_
      refine OS.split 224 rfl (fun hc10508 => ?_) (fun hc10508 => ?_)
      ·have ho10502 := ite_t ho10502 hc10508
       refine OS.pure 5 [(229, .bool (decide (s10442.2.2.1 ≥ ((r9752.1).length : Int))))] rfl (by kernel_rfl) ?_
       refine OS.split 229 rfl (fun hc10509 => ?_) (fun hc10509 => ?_)
       ·have ho10502 := ite_t ho10502 hc10509
        refine OS.pure 9 [(238, .bool true)] rfl (by kernel_rfl) ?_
        refine OS.fin rfl ?_
        obtain rfl := inj ho10502
        exact QW.meet (fun a ha => ⟨ha.ag, hst.keep [0, 1, 2, 3, 4, 5] rfl⟩)
       have ho10502 := ite_f ho10502 hc10509
       refine OS.ldN (cs := [I r10478.1.Kind, I r10478.1.Pc, I r10478.1.Item.Map, I r10478.1.Item.Op, U r10478.1.Item.Key, U r10478.1.Item.Val, U r10478.1.Val]) rfl rfl rfl rfl rfl (by kernel_rfl) (by kernel_rfl) (hst.blkN 5 rfl 0 7) ?_
       refine OS.pure 2 [(231, .slice a9758 (r9752.1).length c9759), (232, I s10442.2.2.1)] rfl (by kernel_rfl) ?_
       obtain ⟨x10510, hx10511, ho10502⟩ := bs ho10502
       obtain ⟨g10513, o10514, c10515, hv10512⟩ := hst.rowv 3 rfl hx10511
       refine OS.idx 58 7 rfl rfl rfl rfl rfl hv10512 rfl (idx_some hx10511).1 (idx_some hx10511).2.1 (by kernel_rfl) (by kernel_rfl) ?_
       refine OS.ldN (cs := enc_api_Act x10510) rfl rfl rfl rfl rfl (by kernel_rfl) (by kernel_rfl) (hst.rowc 3 rfl (fun _ => rfl) hx10511 hv10512) ?_
       refine OS.op (v := .bool (!((r10478.1.Kind == x10510.Kind) && ((r10478.1.Pc == x10510.Pc) && (((r10478.1.Item.Map == x10510.Item.Map) && ((r10478.1.Item.Op == x10510.Item.Op) && ((r10478.1.Item.Key == x10510.Item.Key) && ((r10478.1.Item.Val == x10510.Item.Val) && true)))) && ((r10478.1.Val == x10510.Val) && true)))))) rfl rfl rfl rfl rfl (fun a ha => sneq_run rfl rfl rfl (by kernel_rfl) (by kernel_rfl) a _ ha) ?_
       refine OS.pure 3 [(238, .bool (!((r10478.1.Kind == x10510.Kind) && ((r10478.1.Pc == x10510.Pc) && (((r10478.1.Item.Map == x10510.Item.Map) && ((r10478.1.Item.Op == x10510.Item.Op) && ((r10478.1.Item.Key == x10510.Item.Key) && ((r10478.1.Item.Val == x10510.Item.Val) && true)))) && ((r10478.1.Val == x10510.Val) && true))))))] rfl (by kernel_rfl) ?_
       refine OS.fin rfl ?_
       obtain rfl := inj ho10502
       exact QW.meet (fun a ha => ⟨ha.ag, hst.keep [0, 1, 2, 3, 4, 5] rfl⟩)
      have ho10502 := ite_f ho10502 hc10508
      refine OS.pure 14 [(238, .bool false)] rfl (by kernel_rfl) ?_
      refine OS.fin rfl ?_
      obtain rfl := inj ho10502
      exact QW.meet (fun a ha => ⟨ha.ag, hst.keep [0, 1, 2, 3, 4, 5] rfl⟩)
     rintro a w1 ⟨ha, hst⟩
     refine CW.go ?_ ha
     refine br (o10501) hl10441 (fun hl10441 hc10516 => ?_) (fun hl10441 hc10516 => ?_)
     ·refine rg ?_
      refine pu 1 [(2, .bool false)] (nx (CW.ret (QW.then_ret (QW.block_ret (QW.then_ret (QW.then_ret (QW.block_ret (QW.then_ret (QW.block_ret (QW.then_ret (QW.then_ret (QW.block_ret (QW.then_ret ?_)))))))))))))
      obtain rfl := inj hl10441
      obtain rfl := inj hl8876
      obtain rfl := inj hF
      refine QW.ret1 rfl rfl ?_
      exact ⟨rfl, hst.keep [] rfl⟩
     refine CW.skip (QW.next (rg ?_))
     refine OW.ldN (cs := [I r10478.1.Kind, I r10478.1.Pc, I r10478.1.Item.Map, I r10478.1.Item.Op, U r10478.1.Item.Key, U r10478.1.Item.Val, U r10478.1.Val]) rfl rfl rfl rfl (by kernel_rfl) (by kernel_rfl) (hst.blkN 5 rfl 0 7) ?_
     refine OW.stB hst 4 rfl rfl rfl rfl rfl (by kernel_rfl) rfl rfl [I r10478.1.Kind, I r10478.1.Pc, I r10478.1.Item.Map, I r10478.1.Item.Op, U r10478.1.Item.Key, U r10478.1.Item.Val, U r10478.1.Val] rfl ?_
     intro w10518 hst
     refine nx (rg ?_)
     refine pu 1 [(240, Pt b10483)] ?_
     refine OW.ld rfl rfl rfl rfl (by kernel_rfl) (hst.blk 5 rfl rfl) ?_
     refine pu 1 [(242, .bool (r10478.1.Kind == 2))] (nx ?_)
     refine br ((r10478.1.Kind == 2)) hl10441 (fun hl10441 hc10519 => ?_) (fun hl10441 hc10519 => ?_)
     ·refine rg ?_
      refine pu 1 [(244, Pt b26)] ?_
      obtain ⟨r10528, hr10529, hl10441⟩ := bs hl10441
      refine OW.fn rfl rfl rfl rfl (by kernel_rfl) (worker_Worker_Step_ok _ fu (Pt b26) S10482 r10478.2.2 r10528 hr10529 (hst.part [0] rfl) (hT1.give hst [0])) ?_
      rintro e w10530 ⟨S10532, rfl, hst10531⟩
      refine ⟨_, rfl, ?_⟩
      have hst := hst.join (idx := [0]) (rest := [1, 2, 3, 4, 5]) rfl hst10531
      refine pu 3 [(246, .agg [I r10528.1.Kind, I r10528.1.Pc, I r10528.1.Item.Map, I r10528.1.Item.Op, U r10528.1.Item.Key, U r10528.1.Item.Val, U r10528.1.Val].toArray), (247, .bool r10528.2.1)] ?_
      refine OW.alloc hst rfl rfl rfl [I 0, I 0, I 0, I 0, U 0, U 0, U 0] (by kernel_rfl) ?_
      intro b10533 w10534 hst
      refine OW.stB hst 6 rfl rfl rfl rfl rfl (by kernel_rfl) rfl rfl [I r10528.1.Kind, I r10528.1.Pc, I r10528.1.Item.Map, I r10528.1.Item.Op, U r10528.1.Item.Key, U r10528.1.Item.Val, U r10528.1.Val] rfl ?_
      intro w10535 hst
      refine pu 1 [(28, .bool r10528.2.1)] (nx (CW.seq (CW.seq ?_)))
      obtain ⟨o10556, ho10557, hl10441⟩ := bs hl10441
      refine CW.cutK (fun a w1 => ∃ (S10555 : List Nat), Rep 321 [(0, .slice a2 (p0).length c3), (3, Pt b26), (4, I s8877.2), (6, I ((w64 ((x8908.Hook.tmod 4) + 4)).tmod 4)), (7, Pt b8956), (13, .bool o9242), (15, .slice a9678 (o9484).length c9679), (18, .slice a9758 (r9752.1).length c9759), (20, I s10442.2.1), (21, I s10442.2.2.1), (22, Pt b9763), (268, .bool o10556.2)] a ∧ St w (fp []) w1 [itI R_t33 [Pt b26] S10555 o10556.1, blkI b8956 64 [U r8951.1.Runs, U r8951.1.Missed, U r8951.1.Steps, U r8951.1.Calls, U r8951.1.Sum], rowI (.slice a9678 (o9484).length c9679) 52 enc_api_Res 6 o9484, rowI (.slice a9758 (r9752.1).length c9759) 58 enc_api_Act 7 r9752.1, blkI b9763 58 [I r10478.1.Kind, I r10478.1.Pc, I r10478.1.Item.Map, I r10478.1.Item.Op, U r10478.1.Item.Key, U r10478.1.Item.Val, U r10478.1.Val]]) ?_ ?_
      ·refine CW.region ?_
       refine pu 2 [(249, .bool r10528.2.1)] ?_
       refine OW.split 249 rfl (fun hc10558 => ?_) (fun hc10558 => ?_)
       ·have ho10557 := ite_t ho10557 hc10558
        refine pu 19 [(268, .bool true)] (OW.nil rfl ?_)
        obtain rfl := inj ho10557
        exact QW.meet (fun a ha => ⟨S10532, ha.ag, hst.keep [0, 1, 2, 3, 4] rfl⟩)
       have ho10557 := ite_f ho10557 hc10558
       refine pu 6 [(255, .bool (decide (s10442.2.1 ≥ ((o9484).length : Int))))] ?_
       refine OW.split 255 rfl (fun hc10559 => ?_) (fun hc10559 => ?_)
       ·have ho10557 := ite_t ho10557 hc10559
        refine pu 13 [(268, .bool true)] (OW.nil rfl ?_)
        obtain rfl := inj ho10557
        exact QW.meet (fun a ha => ⟨S10532, ha.ag, hst.keep [0, 1, 2, 3, 4] rfl⟩)
       have ho10557 := ite_f ho10557 hc10559
       refine pu 1 [(256, Pt b26)] ?_
       obtain ⟨r10560, hr10561, ho10557⟩ := bs ho10557
       refine OW.fn rfl rfl rfl rfl (by kernel_rfl) (worker_Worker_Mode_ok _ (Pt b26) S10532 r10528.2.2 r10560 hr10561 (hst.part [0] rfl)) ?_
       rintro e w10562 ⟨S10564, rfl, hst10563⟩
       refine ⟨_, rfl, ?_⟩
       have hst := hst.join (idx := [0]) (rest := [1, 2, 3, 4, 5, 6]) rfl hst10563
       refine pu 3 [(260, .bool (r10560 != 3))] ?_
       refine OW.split 260 rfl (fun hc10565 => ?_) (fun hc10565 => ?_)
       ·have ho10557 := ite_t ho10557 hc10565
        refine pu 8 [(268, .bool true)] (OW.nil rfl ?_)
        obtain rfl := inj ho10557
        exact QW.meet (fun a ha => ⟨S10564, ha.ag, hst.keep [0, 1, 2, 3, 4] rfl⟩)
       have ho10557 := ite_f ho10557 hc10565
       refine pu 3 [(261, Pt b26), (262, .slice a9678 (o9484).length c9679), (263, I s10442.2.1)] ?_
       obtain ⟨x10566, hx10567, ho10557⟩ := bs ho10557
       obtain ⟨g10569, o10570, c10571, hv10568⟩ := hst.rowv 2 rfl hx10567
       refine OW.idx 52 6 rfl rfl rfl rfl hv10568 rfl (idx_some hx10567).1 (idx_some hx10567).2.1 (by kernel_rfl) (by kernel_rfl) ?_
       refine OW.ldN (cs := enc_api_Res x10566) rfl rfl rfl rfl (by kernel_rfl) (by kernel_rfl) (hst.rowc 2 rfl (fun _ => rfl) hx10567 hv10568) ?_
       obtain ⟨r10572, hr10573, ho10557⟩ := bs ho10557
       refine OW.fn rfl rfl rfl rfl (by kernel_rfl) (worker_Worker_Answer_ok _ (Pt b26) S10564 r10528.2.2 x10566 r10572 hr10573 (hst.part [0] rfl)) ?_
       rintro e w10574 ⟨S10576, rfl, hst10575⟩
       refine ⟨_, rfl, ?_⟩
       have hst := hst.join (idx := [0]) (rest := [1, 2, 3, 4, 5, 6]) rfl hst10575
       refine pu 2 [(268, .bool (r10572.1 != 0))] (OW.nil rfl ?_)
       obtain rfl := inj ho10557
       exact QW.meet (fun a ha => ⟨S10576, ha.ag, hst.keep [0, 1, 2, 3, 4] rfl⟩)
      rintro a w1 ⟨S10555, ha, hst⟩
      refine CW.go ?_ ha
      refine br (o10556.2) hl10441 (fun hl10441 hc10577 => ?_) (fun hl10441 hc10577 => ?_)
      ·refine rg ?_
       refine pu 1 [(2, .bool false)] (nx (CW.ret (QW.then_ret (QW.block_ret (QW.then_ret (QW.then_ret (QW.block_ret (QW.then_ret (QW.block_ret (QW.then_ret (QW.then_ret (QW.block_ret (QW.then_ret ?_)))))))))))))
       obtain rfl := inj hl10441
       obtain rfl := inj hl8876
       obtain rfl := inj hF
       refine QW.ret1 rfl rfl ?_
       exact ⟨rfl, hst.keep [] rfl⟩
      refine CW.skip (QW.next (CW.region ?_))
      refine pu 3 [(20, I (w64 (s10442.2.1 + 1)))] (OW.nil rfl (QW.block_normal (QW.next (CW.region ?_))))
      refine pu 3 [(21, I (w64 (s10442.2.2.1 + 1)))] (OW.nil rfl ?_)
      exact QW.meet (fun a ha => ⟨n10440, Nat.lt_succ_self _, (o10556.1, w64 (s10442.2.1 + 1), w64 (s10442.2.2.1 + 1), r10478.1), S10555, ha.ag, hst.keep [0, 1, 2, 3, 4] rfl, hl10441⟩)
     refine CW.skip (QW.block_normal (QW.next (CW.region ?_)))
     refine pu 3 [(21, I (w64 (s10442.2.2.1 + 1)))] (OW.nil rfl ?_)
     exact QW.meet (fun a ha => ⟨n10440, Nat.lt_succ_self _, (r10478.2.2, s10442.2.1, w64 (s10442.2.2.1 + 1), r10478.1), S10482, ha.ag, hst.keep [0, 1, 2, 3, 4] rfl, hl10441⟩)
    refine CW.exit (QW.then_exit (QW.then_exit ?_))
    refine QW.block_here ?_
    obtain rfl := inj hl10441
    exact QW.meet (fun a ha => ⟨(s10442.1, s10442.2.1, s10442.2.2.1, s10442.2.2.2), S10450, rfl, ha.ag, hst.keep [0, 1, 4] rfl⟩)
   rintro a w1 ⟨t10173, S10170, rfl, ha, hst⟩
   refine CW.go ?_ ha
   refine CW.seq ?_
   obtain ⟨v10578, S10579, v10580, S10581, v10582, S10583, hst⟩ := hst.openD3 0 rfl rfl rfl rfl
   obtain ⟨b10584, rfl⟩ := hst.fptr 3 rfl
   obtain ⟨b10585, rfl⟩ := hst.fptr 4 rfl
   have hst : St _ _ _ [blkI b26 73 [Pt b10584, Pt b10585, I t10173.1.mode_, I t10173.1.job.hook, I t10173.1.job.event.N, U t10173.1.job.event.Event.A, U t10173.1.job.event.Event.B, I t10173.1.job.version, I t10173.1.job.prog, U t10173.1.job.calls, v10582], _, _, _, _, _] := hst
   refine CW.region ?_
   refine pu 3 [(274, .pointer (some ⟨b26, 1, none⟩))] ?_
   refine OW.ld rfl rfl rfl rfl (by kernel_rfl) (hst.blk 0 rfl rfl) ?_
   refine pu 1 [(276, I ((w64 ((x8908.Hook.tmod 4) + 4)).tmod 4))] ?_
   obtain ⟨r10594, hr10595, hl8876⟩ := bs hl8876
   refine OW.fn rfl rfl rfl rfl (by kernel_rfl) (stats_Stats_Of_ok _ (Pt b10585) S10581 t10173.1.Stats ((w64 ((x8908.Hook.tmod 4) + 4)).tmod 4) r10594 hr10595 (hst.part [4] rfl)) ?_
   rintro e w10596 ⟨S10598, rfl, hst10597⟩
   refine ⟨_, rfl, ?_⟩
   have hst := hst.join (idx := [4]) (rest := [0, 1, 2, 3, 5]) rfl hst10597
   refine pu 3 [(278, .agg [U r10594.1.Runs, U r10594.1.Missed, U r10594.1.Steps, U r10594.1.Calls, U r10594.1.Sum].toArray), (279, I r10594.2)] ?_
   refine OW.alloc hst rfl rfl rfl [U 0, U 0, U 0, U 0, U 0] (by kernel_rfl) ?_
   intro b10599 w10600 hst
   refine OW.stB hst 6 rfl rfl rfl rfl rfl (by kernel_rfl) rfl rfl [U r10594.1.Runs, U r10594.1.Missed, U r10594.1.Steps, U r10594.1.Calls, U r10594.1.Sum] rfl ?_
   intro w10601 hst
   refine pu 1 [] (nx (rg ?_))
   refine pu 1 [(280, Pt b8956)] ?_
   refine OW.ld rfl rfl rfl rfl (by kernel_rfl) (hst.blk 2 rfl rfl) ?_
   refine pu 2 [(282, U (wu64 (r8951.1.Runs + 1))), (283, Pt b8956)] ?_
   refine OW.stB hst 2 rfl rfl rfl rfl rfl (by kernel_rfl) rfl rfl [U (wu64 (r8951.1.Runs + 1)), U r8951.1.Missed, U r8951.1.Steps, U r8951.1.Calls, U r8951.1.Sum] rfl ?_
   intro w10603 hst
   refine nx (rg ?_)
   refine pu 1 [(284, .pointer (some ⟨b8956, 2, none⟩))] ?_
   refine OW.ld rfl rfl rfl rfl (by kernel_rfl) (hst.blk 2 rfl rfl) ?_
   refine pu 4 [(288, U (wu64 (r8951.1.Steps + (wu64 t10173.2.2.1)))), (289, .pointer (some ⟨b8956, 2, none⟩))] ?_
   refine OW.stB hst 2 rfl rfl rfl rfl rfl (by kernel_rfl) rfl rfl [U (wu64 (r8951.1.Runs + 1)), U r8951.1.Missed, U (wu64 (r8951.1.Steps + (wu64 t10173.2.2.1))), U r8951.1.Calls, U r8951.1.Sum] rfl ?_
   intro w10605 hst
   refine nx (rg ?_)
   refine pu 1 [(290, .pointer (some ⟨b8956, 3, none⟩))] ?_
   refine OW.ld rfl rfl rfl rfl (by kernel_rfl) (hst.blk 2 rfl rfl) ?_
   refine pu 4 [(294, U (wu64 (r8951.1.Calls + (wu64 t10173.2.1)))), (295, .pointer (some ⟨b8956, 3, none⟩))] ?_
   refine OW.stB hst 2 rfl rfl rfl rfl rfl (by kernel_rfl) rfl rfl [U (wu64 (r8951.1.Runs + 1)), U r8951.1.Missed, U (wu64 (r8951.1.Steps + (wu64 t10173.2.2.1))), U (wu64 (r8951.1.Calls + (wu64 t10173.2.1))), U r8951.1.Sum] rfl ?_
   intro w10607 hst
   refine nx (rg ?_)
   refine pu 1 [(296, .pointer (some ⟨b8956, 4, none⟩))] ?_
   refine OW.ld rfl rfl rfl rfl (by kernel_rfl) (hst.blk 2 rfl rfl) ?_
   refine pu 1 [(298, .pointer (some ⟨b9763, 6, none⟩))] ?_
   refine OW.ld rfl rfl rfl rfl (by kernel_rfl) (hst.blk 3 rfl rfl) ?_
   refine pu 2 [(300, U (wu64 (r8951.1.Sum + t10173.2.2.2.Val))), (301, .pointer (some ⟨b8956, 4, none⟩))] ?_
   refine OW.stB hst 2 rfl rfl rfl rfl rfl (by kernel_rfl) rfl rfl [U (wu64 (r8951.1.Runs + 1)), U r8951.1.Missed, U (wu64 (r8951.1.Steps + (wu64 t10173.2.2.1))), U (wu64 (r8951.1.Calls + (wu64 t10173.2.1))), U (wu64 (r8951.1.Sum + t10173.2.2.2.Val))] rfl ?_
   intro w10609 hst
   refine nx (CW.seq ?_)
   obtain ⟨o10627, ho10628, hl8876⟩ := bs hl8876
   refine CW.cutK (fun a w1 => ∃ (S10626 : List Nat), Rep 321 [(0, .slice a2 (p0).length c3), (3, Pt b26), (4, I s8877.2), (320, .bool o10627.2)] a ∧ St w (fp []) w1 [itI R_t33 [Pt b26] S10626 o10627.1]) ?_ ?_
   ·refine CW.region ?_
    refine pu 1 [(302, Pt b9763)] ?_
    refine OW.ld rfl rfl rfl rfl (by kernel_rfl) (hst.blk 3 rfl rfl) ?_
    refine pu 2 [(305, .bool (t10173.2.2.2.Kind != 4))] ?_
    refine OW.split 305 rfl (fun hc10629 => ?_) (fun hc10629 => ?_)
    ·have ho10628 := ite_t ho10628 hc10629
     refine pu 15 [(320, .bool true)] (OW.nil rfl ?_)
     obtain ⟨S10630, hst⟩ := hst.shutD3 R_t73 rfl 1 4 0 5 [2, 3, 6] rfl rfl rfl rfl rfl t10173.1 rfl rfl
     obtain rfl := inj ho10628
     exact QW.meet (fun a ha => ⟨S10630, ha.ag, hst.keep [3] rfl⟩)
    have ho10628 := ite_f ho10628 hc10629
    refine OW.ldN (cs := [U r10594.1.Runs, U r10594.1.Missed, U r10594.1.Steps, U r10594.1.Calls, U r10594.1.Sum]) rfl rfl rfl rfl (by kernel_rfl) (by kernel_rfl) (hst.blkN 6 rfl 0 5) ?_
    refine OW.ldN (cs := [U (wu64 (r8951.1.Runs + 1)), U r8951.1.Missed, U (wu64 (r8951.1.Steps + (wu64 t10173.2.2.1))), U (wu64 (r8951.1.Calls + (wu64 t10173.2.1))), U (wu64 (r8951.1.Sum + t10173.2.2.2.Val))]) rfl rfl rfl rfl (by kernel_rfl) (by kernel_rfl) (hst.blkN 2 rfl 0 5) ?_
    refine OW.op (v := .bool (!((r10594.1.Runs == (wu64 (r8951.1.Runs + 1))) && ((r10594.1.Missed == r8951.1.Missed) && ((r10594.1.Steps == (wu64 (r8951.1.Steps + (wu64 t10173.2.2.1)))) && ((r10594.1.Calls == (wu64 (r8951.1.Calls + (wu64 t10173.2.1)))) && ((r10594.1.Sum == (wu64 (r8951.1.Sum + t10173.2.2.2.Val))) && true))))))) rfl rfl rfl rfl (fun a ha => sneq_run rfl rfl rfl (by kernel_rfl) (by kernel_rfl) a _ ha) ?_
    refine pu 2 [(310, .bool (!((r10594.1.Runs == (wu64 (r8951.1.Runs + 1))) && ((r10594.1.Missed == r8951.1.Missed) && ((r10594.1.Steps == (wu64 (r8951.1.Steps + (wu64 t10173.2.2.1)))) && ((r10594.1.Calls == (wu64 (r8951.1.Calls + (wu64 t10173.2.1)))) && ((r10594.1.Sum == (wu64 (r8951.1.Sum + t10173.2.2.2.Val))) && true)))))))] ?_
    refine OW.split 310 rfl (fun hc10631 => ?_) (fun hc10631 => ?_)
    ·have ho10628 := ite_t ho10628 hc10631
     refine pu 10 [(320, .bool true)] (OW.nil rfl ?_)
     obtain ⟨S10632, hst⟩ := hst.shutD3 R_t73 rfl 1 4 0 5 [2, 3, 6] rfl rfl rfl rfl rfl t10173.1 rfl rfl
     obtain rfl := inj ho10628
     exact QW.meet (fun a ha => ⟨S10632, ha.ag, hst.keep [3] rfl⟩)
    have ho10628 := ite_f ho10628 hc10631
    refine pu 2 [(311, Pt b26), (312, .agg [I 0, .bool false, U 0, .bool false, U 0, U 0].toArray)] ?_
    obtain ⟨S10633, hst⟩ := hst.shutD3 R_t73 rfl 1 4 0 5 [2, 3, 6] rfl rfl rfl rfl rfl t10173.1 rfl rfl
    obtain ⟨r10634, hr10635, ho10628⟩ := bs ho10628
    refine OW.fn rfl rfl rfl rfl (by kernel_rfl) (worker_Worker_Answer_ok _ (Pt b26) S10633 t10173.1 (api_Res.mk 0 false 0 false 0 0) r10634 hr10635 (hst.part [3] rfl)) ?_
    rintro e w10636 ⟨S10638, rfl, hst10637⟩
    refine ⟨_, rfl, ?_⟩
    have hst := hst.join (idx := [3]) (rest := [0, 1, 2]) rfl hst10637
    refine pu 3 [(316, .bool (r10634.1 != 41))] ?_
    refine OW.split 316 rfl (fun hc10639 => ?_) (fun hc10639 => ?_)
    ·have ho10628 := ite_t ho10628 hc10639
     refine pu 4 [(320, .bool true)] (OW.nil rfl ?_)
     obtain rfl := inj ho10628
     exact QW.meet (fun a ha => ⟨S10638, ha.ag, hst.keep [0] rfl⟩)
    have ho10628 := ite_f ho10628 hc10639
    refine pu 1 [(317, Pt b26)] ?_
    obtain ⟨r10640, hr10641, ho10628⟩ := bs ho10628
    refine OW.fn rfl rfl rfl rfl (by kernel_rfl) (worker_Worker_Skip_ok _ (Pt b26) S10638 r10634.2 r10640 hr10641 (hst.part [0] rfl)) ?_
    rintro e w10642 ⟨S10644, rfl, hst10643⟩
    refine ⟨_, rfl, ?_⟩
    have hst := hst.join (idx := [0]) (rest := [1, 2, 3]) rfl hst10643
    refine pu 2 [(320, .bool (r10640.1 != 41))] (OW.nil rfl ?_)
    obtain rfl := inj ho10628
    exact QW.meet (fun a ha => ⟨S10644, ha.ag, hst.keep [0] rfl⟩)
   rintro a w1 ⟨S10626, ha, hst⟩
   refine CW.go ?_ ha
   refine br (o10627.2) hl8876 (fun hl8876 hc10645 => ?_) (fun hl8876 hc10645 => ?_)
   ·refine rg ?_
    refine pu 1 [(2, .bool false)] (nx (CW.ret (QW.block_ret (QW.then_ret (QW.then_ret (QW.block_ret (QW.then_ret ?_)))))))
    obtain rfl := inj hl8876
    obtain rfl := inj hF
    refine QW.ret1 rfl rfl ?_
    exact ⟨rfl, hst.keep [] rfl⟩
   refine CW.skip (QW.block_normal (QW.next (CW.region ?_)))
   refine pu 3 [(4, I (w64 (s8877.2 + 1)))] (OW.nil rfl ?_)
   exact QW.meet (fun a ha => ⟨n8875, Nat.lt_succ_self _, (o10627.1, w64 (s8877.2 + 1)), S10626, ha.ag, hst.keep [0] rfl, hl8876⟩)
  refine CW.exit (QW.then_exit (QW.then_exit ?_))
  refine QW.block_here ?_
  obtain rfl := inj hl8876
  exact QW.meet (fun a ha => ⟨(), rfl, ha.ag, hst.keep [] rfl⟩)
 rintro a w1 ⟨t5337, rfl, ha, hst⟩
 refine CW.go ?_ ha
 refine rg ?_
 refine pu 1 [(2, .bool true)] (nx (CW.ret ?_))
 obtain rfl := inj hF
 refine QW.ret1 rfl rfl ?_
 exact ⟨rfl, hst.keep [] rfl⟩
end Go.Proofs.YtkgajppghpmkbaaDoor

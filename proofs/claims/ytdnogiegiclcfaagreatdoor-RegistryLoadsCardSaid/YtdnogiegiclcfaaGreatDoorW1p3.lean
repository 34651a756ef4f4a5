/- Written by a program (wip/gen): the walks: each Go function returns what its plain function computes. -/
import Derived.Test.YtdnogiegiclcfaaGreatDoorProg
import Derived.Test.YtdnogiegiclcfaaGreatDoorF1
import Derived.Test.YtdnogiegiclcfaaGreatDoorSq
import Derived.Test.YtdnogiegiclcfaaGreatDoorPart
import Derived.Test.YtdnogiegiclcfaaGreatDoorExt
import Derived.Test.YtdnogiegiclcfaaGreatDoorSh
import Derived.Test.YtdnogiegiclcfaaGreatDoorO1
import Derived.Test.YtdnogiegiclcfaaGreatDoorW1p2
set_option linter.unusedSimpArgs false
namespace Go.Proofs.YtdnogiegiclcfaaGreatDoor
open Go.Sx
set_option linter.unusedVariables false
set_option maxRecDepth 10000
set_option maxHeartbeats 4000000
theorem judge_judge_one_ok (w : World) (wb : World) (Sb : List Nat) (fu : Nat) (v0 : Value) (S0 : List Nat) (p0 : judge_judge) (p1 : Int) (r : (Nat → api_Type) × Int) (hF : judge_judge_one fu p0 p1 = some r)
    (hst : St w (fp [itI (R_t92 wb Sb) [v0] S0 p0]) w [itI (R_t92 wb Sb) [v0] S0 p0]) (hb : Bor wb Sb w (fp [itI (R_t92 wb Sb) [v0] S0 p0])) (hT0 : Rd w (fp [itI (R_t92 wb Sb) [v0] S0 p0]) (.slice (some ⟨0, 0, none⟩) 23 23) enc_ops_form 2 tab_g0) (hT1 : Rd w (fp [itI (R_t92 wb Sb) [v0] S0 p0]) (.slice (some ⟨1, 0, none⟩) 7 7) enc_sigs_sig 5 tab_g1) :
    Calls Tryz.prog 78 [v0, I p1].toArray w (fun e w' => ∃ (s0 : List Nat), e = .returned (.tuple #[.agg (arrC (enc_api_Type) 8 r.1).toArray, I r.2]) ∧ St w (fp [itI (R_t92 wb Sb) [v0] S0 p0]) w' [itI (R_t92 wb Sb) [v0] s0 p0]) := by
 refine CW.start (N := 194) Tryz.func78 rfl rfl rfl ?_
 obtain ⟨b1, rfl⟩ := hst.fptr 0 rfl
 refine rg ?_
 refine OW.alloc hst rfl rfl rfl [I 0, U 0, U 0, I 0, I 0, U 0, U 0, I 0, I 0, U 0, U 0, I 0, I 0, U 0, U 0, I 0, I 0, U 0, U 0, I 0, I 0, U 0, U 0, I 0, I 0, U 0, U 0, I 0, I 0, U 0, U 0, I 0] (by kernel_rfl) ?_
 intro b4 w5 hst
 refine pu 1 [] (nx (CW.seq ?_))
 obtain ⟨v6, S7, v8, S9, v10, S11, v12, S13, v14, S15, hst⟩ := hst.openQ5 0 rfl rfl rfl rfl rfl rfl
 have hbo16 := hst.borOut 2 rfl
 have hbr17 := hbo16.bor hb
 have hbo18 := hst.borOut 3 rfl
 have hbr19 := hbo18.bor hb
 have hst := hst.toRow1 4 rfl
 have hst := hst.toRow1 5 rfl
 have hst := hst.toRow1 6 rfl
 have hst := hst.keep [0, 1, 4, 5, 6] rfl
 obtain ⟨l20, a21, c22, rfl⟩ := hbr17.len
 obtain ⟨l23, a24, c25, rfl⟩ := hbr19.len
 obtain ⟨l26, a27, c28, rfl⟩ := hst.len 2 rfl
 obtain ⟨l29, a30, c31, rfl⟩ := hst.len 3 rfl
 obtain ⟨l32, a33, c34, rfl⟩ := hst.len 4 rfl
 have hst : St _ _ _ [blkI b1 146 [.slice a21 (p0.Module.Maps).length c22, .slice a24 (p0.Module.Code).length c25, .slice a27 (p0.came).length c28, .slice a30 (p0.any).length c31, .slice a33 (p0.loops).length c34], _, _, _, _] := hst
 obtain ⟨o80, ho81, hF⟩ := bs hF
 refine CW.cutK (fun a w1 => ∃ (S77 : List Nat) (b78 : Nat) (b79 : Nat), Rep 194 [(0, Pt b1), (1, I p1), (4, Pt b4), (6, Pt b78), (7, Pt b79)] a ∧ St w (fp [itI (R_t92 wb Sb) [Pt b1] S0 p0]) w1 [itI (R_t92 wb Sb) [Pt b1] S77 p0, blkI b4 156 [I 0, U 0, U 0, I 0, I 0, U 0, U 0, I 0, I 0, U 0, U 0, I 0, I 0, U 0, U 0, I 0, I 0, U 0, U 0, I 0, I 0, U 0, U 0, I 0, I 0, U 0, U 0, I 0, I 0, U 0, U 0, I 0], blkI b78 42 [I o80.1.Op, I o80.1.D, I o80.1.A, I o80.1.B, I o80.1.Imm], blkI b79 156 (arrC (enc_api_Type) 8 o80.2)]) ?_ ?_
 ·refine CW.plan (by kernel_rfl) ?_
  intro w82 hch83
  have hst := hst.same hch83
  refine OA.pure [0, 1, 2, 3] [(19, .pointer (some ⟨b1, 1, none⟩))] (by kernel_rfl) ?_
  refine OA.ld (i := 4) rfl (by kernel_rfl) rfl rfl rfl (by kernel_rfl) (hst.blk 0 rfl rfl) ?_
  refine OA.pure [5] [(21, I p1)] (by kernel_rfl) ?_
  obtain ⟨x84, hx85, ho81⟩ := bs ho81
  obtain ⟨g87, o88, c89, hv86⟩ := hbr19.formv (fun _ => ⟨_, rfl⟩) hx85
  refine OA.idx (i := 6) 42 5 rfl (by kernel_rfl) rfl rfl rfl hv86 rfl (idx_some hx85).1 (idx_some hx85).2.1 (by kernel_rfl) (by kernel_rfl) ?_
  refine OA.ldN (i := 7) (cs := enc_api_Inst x84) rfl (by kernel_rfl) rfl rfl rfl (by kernel_rfl) (by kernel_rfl) (hbr19.cellv hst hx85 hv86) ?_
  refine OA.pure [8, 9, 10] [(26, .pointer (some ⟨b1, 2, none⟩))] (by kernel_rfl) ?_
  refine OA.ld (i := 11) rfl (by kernel_rfl) rfl rfl rfl (by kernel_rfl) (hst.blk 0 rfl rfl) ?_
  refine OA.pure [12] [(28, I p1)] (by kernel_rfl) ?_
  obtain ⟨x90, hx91, ho81⟩ := bs ho81
  obtain ⟨g93, o94, c95, hv92⟩ := hst.rowv 2 rfl hx91
  refine OA.idx (i := 13) 156 32 rfl (by kernel_rfl) rfl rfl rfl hv92 rfl (idx_some hx91).1 (idx_some hx91).2.1 (by kernel_rfl) (by kernel_rfl) ?_
  refine OA.ldN (i := 14) (cs := arrC (enc_api_Type) 8 x90) rfl (by kernel_rfl) rfl rfl rfl (by kernel_rfl) (by kernel_rfl) (hst.rowc 2 rfl (fun _ => rfl) hx91 hv92) ?_
  refine OA.acts [15, 16] 15 (by kernel_rfl) (by kernel_rfl) (by kernel_rfl) (alts_cons ?_ (alts_cons ?_ alts_nil))
  ·refine Alt.of (i := 15) [14, 11, 7, 4] rfl rfl (by kernel_rfl) (by kernel_rfl) ?_
   refine OW.alloc hst rfl rfl rfl [I 0, I 0, I 0, I 0, I 0] (by kernel_rfl) ?_
   intro b96 w97 hst
   refine OA.next ⟨(hst.rowc 2 rfl (fun _ => rfl) hx91 hv92), (hst.blk 0 rfl rfl), (hbr19.cellv hst hx85 hv86), (hst.blk 0 rfl rfl), trivial⟩ ?_
   refine OA.act (i := 16) [14, 11, 7, 4] (by kernel_rfl) rfl rfl (by kernel_rfl) (by kernel_rfl) ?_
   refine OW.alloc hst rfl rfl rfl [I 0, U 0, U 0, I 0, I 0, U 0, U 0, I 0, I 0, U 0, U 0, I 0, I 0, U 0, U 0, I 0, I 0, U 0, U 0, I 0, I 0, U 0, U 0, I 0, I 0, U 0, U 0, I 0, I 0, U 0, U 0, I 0] (by kernel_rfl) ?_
   intro b98 w99 hst
   refine OA.next ⟨(hst.rowc 2 rfl (fun _ => rfl) hx91 hv92), (hst.blk 0 rfl rfl), (hbr19.cellv hst hx85 hv86), (hst.blk 0 rfl rfl), trivial⟩ ?_
   refine OA.act (i := 17) [14, 11] (by kernel_rfl) rfl rfl (by kernel_rfl) (by kernel_rfl) ?_
   refine OW.stB hst 5 rfl rfl rfl rfl rfl (by kernel_rfl) rfl rfl [I x84.Op, I x84.D, I x84.A, I x84.B, I x84.Imm] rfl ?_
   intro w100 hst
   refine OA.next ⟨(hst.rowc 2 rfl (fun _ => rfl) hx91 hv92), (hst.blk 0 rfl rfl), trivial⟩ ?_
   refine OA.act (i := 18) [] (by kernel_rfl) rfl rfl (by kernel_rfl) (by kernel_rfl) ?_
   refine OW.stB hst 6 rfl rfl rfl rfl rfl (by kernel_rfl) rfl rfl (arrC (enc_api_Type) 8 x90) rfl ?_
   intro w101 hst
   refine OA.next trivial ?_
   refine OA.fin (by kernel_rfl) (by kernel_rfl) ?_
   have hst := hst.borIn hbo16
   have hst := hst.borIn hbo18
   have hst := hst.toIt 2 rfl (fun _ => rfl) (by decide)
   have hst := hst.toIt 3 rfl (fun _ => rfl) (by decide)
   have hst := hst.toIt 4 rfl (fun _ => rfl) (by decide)
   obtain ⟨S102, hst⟩ := hst.shutP5 (R_t146 wb Sb) rfl 0 7 8 2 3 4 [1, 5, 6] rfl rfl rfl rfl rfl rfl rfl p0 rfl rfl
   obtain rfl := inj ho81
   exact QW.meet (fun a ha => ⟨S102, b96, b98, ha.ag, hst.keep [3, 0, 1, 2] rfl⟩)
  refine Alt.of (i := 16) [14, 11, 7, 4] rfl rfl (by kernel_rfl) (by kernel_rfl) ?_
  refine OW.alloc hst rfl rfl rfl [I 0, U 0, U 0, I 0, I 0, U 0, U 0, I 0, I 0, U 0, U 0, I 0, I 0, U 0, U 0, I 0, I 0, U 0, U 0, I 0, I 0, U 0, U 0, I 0, I 0, U 0, U 0, I 0, I 0, U 0, U 0, I 0] (by kernel_rfl) ?_
  intro b103 w104 hst
  refine OA.next ⟨(hst.rowc 2 rfl (fun _ => rfl) hx91 hv92), (hst.blk 0 rfl rfl), (hbr19.cellv hst hx85 hv86), (hst.blk 0 rfl rfl), trivial⟩ ?_
  refine OA.act (i := 15) [14, 11, 7, 4] (by kernel_rfl) rfl rfl (by kernel_rfl) (by kernel_rfl) ?_
  refine OW.alloc hst rfl rfl rfl [I 0, I 0, I 0, I 0, I 0] (by kernel_rfl) ?_
  intro b105 w106 hst
  refine OA.next ⟨(hst.rowc 2 rfl (fun _ => rfl) hx91 hv92), (hst.blk 0 rfl rfl), (hbr19.cellv hst hx85 hv86), (hst.blk 0 rfl rfl), trivial⟩ ?_
  refine OA.act (i := 17) [14, 11] (by kernel_rfl) rfl rfl (by kernel_rfl) (by kernel_rfl) ?_
  refine OW.stB hst 6 rfl rfl rfl rfl rfl (by kernel_rfl) rfl rfl [I x84.Op, I x84.D, I x84.A, I x84.B, I x84.Imm] rfl ?_
  intro w107 hst
  refine OA.next ⟨(hst.rowc 2 rfl (fun _ => rfl) hx91 hv92), (hst.blk 0 rfl rfl), trivial⟩ ?_
  refine OA.act (i := 18) [] (by kernel_rfl) rfl rfl (by kernel_rfl) (by kernel_rfl) ?_
  refine OW.stB hst 5 rfl rfl rfl rfl rfl (by kernel_rfl) rfl rfl (arrC (enc_api_Type) 8 x90) rfl ?_
  intro w108 hst
  refine OA.next trivial ?_
  refine OA.fin (by kernel_rfl) (by kernel_rfl) ?_
  have hst := hst.borIn hbo16
  have hst := hst.borIn hbo18
  have hst := hst.toIt 2 rfl (fun _ => rfl) (by decide)
  have hst := hst.toIt 3 rfl (fun _ => rfl) (by decide)
  have hst := hst.toIt 4 rfl (fun _ => rfl) (by decide)
  obtain ⟨S109, hst⟩ := hst.shutP5 (R_t146 wb Sb) rfl 0 7 8 2 3 4 [1, 5, 6] rfl rfl rfl rfl rfl rfl rfl p0 rfl rfl
  obtain rfl := inj ho81
  exact QW.meet (fun a ha => ⟨S109, b105, b103, ha.ag, hst.keep [3, 0, 2, 1] rfl⟩)
 rintro a w1 ⟨S77, b78, b79, ha, hst⟩
 refine CW.go ?_ ha
 refine rg ?_
 refine pu 2 [(31, .agg [I 0, U 0, U 0, I 0].toArray), (32, .agg [I 0, U 0, U 0, I 0].toArray)] ?_
 refine OW.alloc hst rfl rfl rfl [I 0, U 0, U 0, I 0] (by kernel_rfl) ?_
 intro b116 w117 hst
 refine OW.alloc hst rfl rfl rfl [I 0, U 0, U 0, I 0] (by kernel_rfl) ?_
 intro b118 w119 hst
 refine OW.stB hst 4 rfl rfl rfl rfl rfl (by kernel_rfl) rfl rfl [I 0, U 0, U 0, I 0] rfl ?_
 intro w120 hst
 refine OW.stB hst 5 rfl rfl rfl rfl rfl (by kernel_rfl) rfl rfl [I 0, U 0, U 0, I 0] rfl ?_
 intro w121 hst
 refine nx (CW.seq (rg ?_))
 refine OW.ldN (cs := [I o80.1.Op, I o80.1.D, I o80.1.A, I o80.1.B, I o80.1.Imm]) rfl rfl rfl rfl (by kernel_rfl) (by kernel_rfl) (hst.blkN 2 rfl 0 5) ?_
 obtain ⟨r126, hr127, hF⟩ := bs hF
 refine OW.fn rfl rfl rfl rfl (by kernel_rfl) (ops_Source_ok _ o80.1 r126 hr127 (hst.part [] rfl) (hT0.give hst [])) ?_
 rintro e w128 ⟨rfl, hst129⟩
 refine ⟨_, rfl, ?_⟩
 have hst := hst.join (idx := []) (rest := [0, 1, 2, 3, 4, 5]) rfl hst129
 refine nx ?_
 obtain ⟨o141, ho142, hF⟩ := bs hF
 refine CW.cutK (fun a w1 => Rep 194 [(0, Pt b1), (1, I p1), (4, Pt b4), (6, Pt b78), (7, Pt b79), (8, Pt b116), (9, Pt b118)] a ∧ St w (fp [itI (R_t92 wb Sb) [Pt b1] S0 p0]) w1 [itI (R_t92 wb Sb) [Pt b1] S77 p0, blkI b4 156 [I 0, U 0, U 0, I 0, I 0, U 0, U 0, I 0, I 0, U 0, U 0, I 0, I 0, U 0, U 0, I 0, I 0, U 0, U 0, I 0, I 0, U 0, U 0, I 0, I 0, U 0, U 0, I 0, I 0, U 0, U 0, I 0], blkI b78 42 [I o80.1.Op, I o80.1.D, I o80.1.A, I o80.1.B, I o80.1.Imm], blkI b79 156 (arrC (enc_api_Type) 8 o80.2), blkI b116 154 [I 0, U 0, U 0, I 0], blkI b118 154 [I o141.Kind, U o141.Span.Lo, U o141.Span.Hi, I o141.Map]]) ?_ ?_
 ·refine br (r126) ho142 (fun ho142 hc143 => ?_) (fun ho142 hc143 => ?_)
  ·refine CW.region ?_
   refine OW.ldN (cs := [I o80.1.Op, I o80.1.D, I o80.1.A, I o80.1.B, I o80.1.Imm]) rfl rfl rfl rfl (by kernel_rfl) (by kernel_rfl) (hst.blkN 2 rfl 0 5) ?_
   refine OW.ldN (cs := (arrC (enc_api_Type) 8 o80.2)) rfl rfl rfl rfl (by kernel_rfl) (by kernel_rfl) (hst.blkN 3 rfl 0 32) ?_
   obtain ⟨r149, hr150, ho142⟩ := bs ho142
   refine OW.fn rfl rfl rfl rfl (by kernel_rfl) (judge_source_ok _ o80.1 o80.2 r149 hr150 (hst.part [] rfl)) ?_
   rintro e w151 ⟨rfl, hst152⟩
   refine ⟨_, rfl, ?_⟩
   have hst := hst.join (idx := []) (rest := [0, 1, 2, 3, 4, 5]) rfl hst152
   refine OW.stB hst 5 rfl rfl rfl rfl rfl (by kernel_rfl) rfl rfl [I r149.Kind, U r149.Span.Lo, U r149.Span.Hi, I r149.Map] rfl ?_
   intro w153 hst
   refine OW.nil rfl ?_
   obtain rfl := inj ho142
   exact QW.meet (fun a ha => ⟨ha.ag, hst.keep [0, 1, 2, 3, 4, 5] rfl⟩)
  refine CW.skip ?_
  obtain rfl := inj ho142
  exact QW.meet (fun a ha => ⟨ha.ag, hst.keep [0, 1, 2, 3, 4, 5] rfl⟩)
 rintro a w1 ⟨ha, hst⟩
 refine CW.go ?_ ha
 refine rg ?_
 refine pu 1 [(38, .pointer (some ⟨b78, 2, none⟩))] ?_
 refine OW.ld rfl rfl rfl rfl (by kernel_rfl) (hst.blk 2 rfl rfl) ?_
 obtain ⟨i157, hi158, hF⟩ := bs hF
 refine OW.op (v := .pointer (some ⟨b79, 0 + Int.toNat o80.1.A * 4, none⟩)) rfl rfl rfl rfl (fun a ha => aidx_run (n := 8) 154 4 rfl rfl rfl (ain_some hi158).1 (ain_some hi158).2.1 (by kernel_rfl) (by kernel_rfl) a _ ha) ?_
 refine OW.ldN (cs := enc_api_Type (o80.2 i157)) rfl rfl rfl rfl (by kernel_rfl) (by kernel_rfl) (hst.arrB 3 rfl enc_api_Type (fun _ => rfl) 8 o80.2 0 rfl rfl hi158) ?_
 refine OW.stB hst 4 rfl rfl rfl rfl rfl (by kernel_rfl) rfl rfl [I (o80.2 i157).Kind, U (o80.2 i157).Span.Lo, U (o80.2 i157).Span.Hi, I (o80.2 i157).Map] rfl ?_
 intro w159 hst
 refine nx (CW.seq (rg ?_))
 refine pu 1 [(42, Pt b78)] ?_
 refine OW.ld rfl rfl rfl rfl (by kernel_rfl) (hst.blk 2 rfl rfl) (nx (CW.block (rg ?_)))
 refine pu 2 [(64, .bool (o80.1.Op == 0))] (nx ?_)
 refine br ((o80.1.Op == 0)) hF (fun hF hc160 => ?_) (fun hF hc160 => ?_)
 ·refine CW.seq (rg ?_)
  refine pu 1 [(66, Pt b118)] ?_
  refine OW.ld rfl rfl rfl rfl (by kernel_rfl) (hst.blk 5 rfl rfl) ?_
  refine pu 1 [(68, .bool (o141.Kind == 0))] (nx ?_)
  refine br ((o141.Kind == 0)) hF (fun hF hc161 => ?_) (fun hF hc161 => ?_)
  ·refine rg ?_
   refine OW.ldN (cs := (arrC (enc_api_Type) 8 o80.2)) rfl rfl rfl rfl (by kernel_rfl) (by kernel_rfl) (hst.blkN 3 rfl 0 32) ?_
   refine OW.stB hst 1 rfl rfl rfl rfl rfl (by kernel_rfl) rfl rfl (arrC (enc_api_Type) 8 o80.2) rfl ?_
   intro w163 hst
   refine pu 1 [(5, I 33)] (nx (CW.ret (QW.then_ret (QW.block_ret (QW.then_ret ?_)))))
   obtain rfl := inj hF
   refine QW.ret_ct rfl rfl (run_loadN (cs := (arrC (enc_api_Type) 8 o80.2)) (by kernel_rfl) (by kernel_rfl) (hst.blkN 1 rfl 0 32)) rfl ?_
   exact ⟨S77, rfl, hst.keep [0] rfl⟩
  refine CW.skip (QW.next (CW.region ?_))
  refine pu 1 [(70, .pointer (some ⟨b78, 1, none⟩))] ?_
  refine OW.ld rfl rfl rfl rfl (by kernel_rfl) (hst.blk 2 rfl rfl) ?_
  refine OW.ldN (cs := [I o141.Kind, U o141.Span.Lo, U o141.Span.Hi, I o141.Map]) rfl rfl rfl rfl (by kernel_rfl) (by kernel_rfl) (hst.blkN 5 rfl 0 4) ?_
  obtain ⟨i167, hi168, hF⟩ := bs hF
  refine OW.op (v := .pointer (some ⟨b79, 0 + Int.toNat o80.1.D * 4, none⟩)) rfl rfl rfl rfl (fun a ha => aidx_run (n := 8) 154 4 rfl rfl rfl (ain_some hi168).1 (ain_some hi168).2.1 (by kernel_rfl) (by kernel_rfl) a _ ha) ?_
  refine OW.stA hst 3 rfl rfl rfl rfl rfl (by kernel_rfl) rfl enc_api_Type (fun _ => rfl) 8 o80.2 0 rfl rfl hi168 0 rfl rfl o141 rfl (arrC (enc_api_Type) 8 (aset o80.2 i167 o141)) rfl ?_
  intro w169 hst
  refine OW.nil rfl (QW.block_normal (QW.next (rg ?_)))
  refine OW.ldN (cs := (arrC (enc_api_Type) 8 (aset o80.2 i167 o141))) rfl rfl rfl rfl (by kernel_rfl) (by kernel_rfl) (hst.blkN 3 rfl 0 32) ?_
  refine OW.stB hst 1 rfl rfl rfl rfl rfl (by kernel_rfl) rfl rfl (arrC (enc_api_Type) 8 (aset o80.2 i167 o141)) rfl ?_
  intro w171 hst
  refine pu 1 [(5, I 0)] (nx (CW.ret ?_))
  obtain rfl := inj hF
  refine QW.ret_ct rfl rfl (run_loadN (cs := (arrC (enc_api_Type) 8 (aset o80.2 i167 o141))) (by kernel_rfl) (by kernel_rfl) (hst.blkN 1 rfl 0 32)) rfl ?_
  exact ⟨S77, rfl, hst.keep [0] rfl⟩
 refine rg ?_
 refine pu 2 [(74, .bool (o80.1.Op == 11))] (nx ?_)
 refine br ((o80.1.Op == 11)) hF (fun hF hc172 => ?_) (fun hF hc172 => ?_)
 ·refine CW.seq ?_
  refine CW.plan (by kernel_rfl) ?_
  intro w186 hch187
  have hst := hst.same hch187
  refine OA.pure [0] [(76, .pointer (some ⟨b78, 1, none⟩))] (by kernel_rfl) ?_
  refine OA.ld (i := 1) rfl (by kernel_rfl) rfl rfl rfl (by kernel_rfl) (hst.blk 2 rfl rfl) ?_
  refine OA.act (i := 2) [1] (by kernel_rfl) rfl rfl (by kernel_rfl) (by kernel_rfl) ?_
  obtain ⟨r188, hr189, hF⟩ := bs hF
  refine OW.fn rfl rfl rfl rfl (by kernel_rfl) (span_Full_ok _ r188 hr189 (hst.part [] rfl)) ?_
  rintro e w190 ⟨rfl, hst191⟩
  refine ⟨_, rfl, ?_⟩
  have hst := hst.join (idx := []) (rest := [0, 1, 2, 3, 4, 5]) rfl hst191
  refine OA.next ⟨(hst.blk 2 rfl rfl), trivial⟩ ?_
  refine OA.act (i := 3) [1] (by kernel_rfl) rfl rfl (by kernel_rfl) (by kernel_rfl) ?_
  obtain ⟨r192, hr193, hF⟩ := bs hF
  refine OW.fn rfl rfl rfl rfl (by kernel_rfl) (judge_number_ok _ r188 r192 hr193 (hst.part [] rfl)) ?_
  rintro e w194 ⟨rfl, hst195⟩
  refine ⟨_, rfl, ?_⟩
  have hst := hst.join (idx := []) (rest := [0, 1, 2, 3, 4, 5]) rfl hst195
  refine OA.next ⟨(hst.blk 2 rfl rfl), trivial⟩ ?_
  obtain ⟨i196, hi197, hF⟩ := bs hF
  refine OA.val (i := 4) (v := .pointer (some ⟨b79, 0 + Int.toNat o80.1.D * 4, none⟩)) rfl (by kernel_rfl) rfl rfl rfl rfl (fun a w ha => aidx_run (n := 8) 154 4 rfl rfl rfl (ain_some hi197).1 (ain_some hi197).2.1 (by kernel_rfl) (by kernel_rfl) a w ha) ?_
  refine OA.act (i := 5) [] (by kernel_rfl) rfl rfl (by kernel_rfl) (by kernel_rfl) ?_
  refine OW.stA hst 3 rfl rfl rfl rfl rfl (by kernel_rfl) rfl enc_api_Type (fun _ => rfl) 8 o80.2 0 rfl rfl hi197 0 rfl rfl r192 rfl (arrC (enc_api_Type) 8 (aset o80.2 i196 r192)) rfl ?_
  intro w198 hst
  refine OA.next trivial ?_
  refine OA.fin (by kernel_rfl) (by kernel_rfl) (QW.next (CW.seq ?_))
  refine CW.plan (by kernel_rfl) ?_
  intro w218 hch219
  have hst := hst.same hch219
  refine OA.ldN (i := 0) (cs := (arrC (enc_api_Type) 8 (aset o80.2 i196 r192))) rfl (by kernel_rfl) rfl rfl rfl (by kernel_rfl) (by kernel_rfl) (hst.blkN 3 rfl 0 32) ?_
  refine OA.ldN (i := 1) (cs := [I o141.Kind, U o141.Span.Lo, U o141.Span.Hi, I o141.Map]) rfl (by kernel_rfl) rfl rfl rfl (by kernel_rfl) (by kernel_rfl) (hst.blkN 5 rfl 0 4) ?_
  refine OA.ldN (i := 4) (cs := [I o141.Kind, U o141.Span.Lo, U o141.Span.Hi, I o141.Map]) rfl (by kernel_rfl) rfl rfl rfl (by kernel_rfl) (by kernel_rfl) (hst.blkN 5 rfl 0 4) ?_
  refine OA.act (i := 2) [4, 0] (by kernel_rfl) rfl rfl (by kernel_rfl) (by kernel_rfl) ?_
  refine OW.row (α := api_Type) (e := 154) (enc := enc_api_Type) (sz := 4) hst rfl rfl rfl [o141] rfl (fun _ => rfl) rfl rfl (fun _ => by kernel_rfl) ?_
  intro g220 w221 hst
  refine OA.next ⟨(hst.blkN 5 rfl 0 4), (hst.blkN 3 rfl 0 32), trivial⟩ ?_
  refine OA.act (i := 3) [4, 0] (by kernel_rfl) rfl rfl (by kernel_rfl) (by kernel_rfl) ?_
  obtain ⟨r222, hr223, hF⟩ := bs hF
  refine OW.fn rfl rfl rfl rfl (by kernel_rfl) (judge_nums_ok _ (.slice (some ⟨g220, 0, none⟩) 1 1) ([o141]) r222 hr223 (hst.part [] rfl) (hst.rd 6 rfl (fun _ => rfl) [] rfl (hst.len 6 rfl).1)) ?_
  rintro e w224 ⟨rfl, hst225⟩
  refine ⟨_, rfl, ?_⟩
  have hst := hst.join (idx := []) (rest := [0, 1, 2, 3, 4, 5, 6]) rfl hst225
  refine OA.next ⟨(hst.blkN 5 rfl 0 4), (hst.blkN 3 rfl 0 32), trivial⟩ ?_
  refine OA.act (i := 5) [0] (by kernel_rfl) rfl rfl (by kernel_rfl) (by kernel_rfl) ?_
  obtain ⟨r226, hr227, hF⟩ := bs hF
  refine OW.fn rfl rfl rfl rfl (by kernel_rfl) (judge_word_ok _ o141 r226 hr227 (hst.part [] rfl)) ?_
  rintro e w228 ⟨rfl, hst229⟩
  refine ⟨_, rfl, ?_⟩
  have hst := hst.join (idx := []) (rest := [0, 1, 2, 3, 4, 5, 6]) rfl hst229
  refine OA.next ⟨(hst.blkN 3 rfl 0 32), trivial⟩ ?_
  refine OA.act (i := 6) [0] (by kernel_rfl) rfl rfl (by kernel_rfl) (by kernel_rfl) ?_
  refine OW.row (α := Int) (e := 25) (enc := encInt .i64) (sz := 1) hst rfl rfl rfl [r222, r226] rfl (fun _ => rfl) rfl rfl (fun _ => by kernel_rfl) ?_
  intro g230 w231 hst
  refine OA.next ⟨(hst.blkN 3 rfl 0 32), trivial⟩ ?_
  refine OA.act (i := 7) [0] (by kernel_rfl) rfl rfl (by kernel_rfl) (by kernel_rfl) ?_
  obtain ⟨r232, hr233, hF⟩ := bs hF
  refine OW.fn rfl rfl rfl rfl (by kernel_rfl) (judge_first_ok _ (.slice (some ⟨g230, 0, none⟩) 2 2) ([r222, r226]) r232 hr233 (hst.part [] rfl) (hst.rd 7 rfl (fun _ => rfl) [] rfl (hst.len 7 rfl).1)) ?_
  rintro e w234 ⟨rfl, hst235⟩
  refine ⟨_, rfl, ?_⟩
  have hst := hst.join (idx := []) (rest := [0, 1, 2, 3, 4, 5, 6, 7]) rfl hst235
  refine OA.next ⟨(hst.blkN 3 rfl 0 32), trivial⟩ ?_
  refine OA.act (i := 8) [] (by kernel_rfl) rfl rfl (by kernel_rfl) (by kernel_rfl) ?_
  refine OW.stB hst 1 rfl rfl rfl rfl rfl (by kernel_rfl) rfl rfl (arrC (enc_api_Type) 8 (aset o80.2 i196 r192)) rfl ?_
  intro w236 hst
  refine OA.next trivial ?_
  refine OA.act (i := 9) [] (by kernel_rfl) rfl rfl (by kernel_rfl) (by kernel_rfl) ?_
  refine pu 1 [(5, I r232)] (OA.next trivial ?_)
  refine OA.fin (by kernel_rfl) (by kernel_rfl) (QW.next (CW.ret (QW.block_ret (QW.then_ret ?_))))
  obtain rfl := inj hF
  refine QW.ret_ct rfl rfl (run_loadN (cs := (arrC (enc_api_Type) 8 (aset o80.2 i196 r192))) (by kernel_rfl) (by kernel_rfl) (hst.blkN 1 rfl 0 32)) rfl ?_
  exact ⟨S77, rfl, hst.keep [0] rfl⟩
 refine rg ?_
 refine pu 2 [(89, .bool (o80.1.Op == 12))] (nx ?_)
 refine br ((o80.1.Op == 12)) hF (fun hF hc237 => ?_) (fun hF hc237 => ?_)
 ·refine CW.seq ?_
  refine CW.plan (by kernel_rfl) ?_
  intro w257 hch258
  have hst := hst.same hch258
  refine OA.ldN (i := 0) (cs := (arrC (enc_api_Type) 8 o80.2)) rfl (by kernel_rfl) rfl rfl rfl (by kernel_rfl) (by kernel_rfl) (hst.blkN 3 rfl 0 32) ?_
  refine OA.ldN (i := 1) (cs := [I (o80.2 i157).Kind, U (o80.2 i157).Span.Lo, U (o80.2 i157).Span.Hi, I (o80.2 i157).Map]) rfl (by kernel_rfl) rfl rfl rfl (by kernel_rfl) (by kernel_rfl) (hst.blkN 4 rfl 0 4) ?_
  refine OA.ldN (i := 2) (cs := [I o141.Kind, U o141.Span.Lo, U o141.Span.Hi, I o141.Map]) rfl (by kernel_rfl) rfl rfl rfl (by kernel_rfl) (by kernel_rfl) (hst.blkN 5 rfl 0 4) ?_
  refine OA.ldN (i := 5) (cs := [I o141.Kind, U o141.Span.Lo, U o141.Span.Hi, I o141.Map]) rfl (by kernel_rfl) rfl rfl rfl (by kernel_rfl) (by kernel_rfl) (hst.blkN 5 rfl 0 4) ?_
  refine OA.act (i := 3) [5, 0] (by kernel_rfl) rfl rfl (by kernel_rfl) (by kernel_rfl) ?_
  refine OW.row (α := api_Type) (e := 154) (enc := enc_api_Type) (sz := 4) hst rfl rfl rfl [(o80.2 i157), o141] rfl (fun _ => rfl) rfl rfl (fun _ => by kernel_rfl) ?_
  intro g259 w260 hst
  refine OA.next ⟨(hst.blkN 5 rfl 0 4), (hst.blkN 3 rfl 0 32), trivial⟩ ?_
  refine OA.act (i := 4) [5, 0] (by kernel_rfl) rfl rfl (by kernel_rfl) (by kernel_rfl) ?_
  obtain ⟨r261, hr262, hF⟩ := bs hF
  refine OW.fn rfl rfl rfl rfl (by kernel_rfl) (judge_nums_ok _ (.slice (some ⟨g259, 0, none⟩) 2 2) ([(o80.2 i157), o141]) r261 hr262 (hst.part [] rfl) (hst.rd 6 rfl (fun _ => rfl) [] rfl (hst.len 6 rfl).1)) ?_
  rintro e w263 ⟨rfl, hst264⟩
  refine ⟨_, rfl, ?_⟩
  have hst := hst.join (idx := []) (rest := [0, 1, 2, 3, 4, 5, 6]) rfl hst264
  refine OA.next ⟨(hst.blkN 5 rfl 0 4), (hst.blkN 3 rfl 0 32), trivial⟩ ?_
  refine OA.act (i := 6) [0] (by kernel_rfl) rfl rfl (by kernel_rfl) (by kernel_rfl) ?_
  obtain ⟨r265, hr266, hF⟩ := bs hF
  refine OW.fn rfl rfl rfl rfl (by kernel_rfl) (judge_word_ok _ o141 r265 hr266 (hst.part [] rfl)) ?_
  rintro e w267 ⟨rfl, hst268⟩
  refine ⟨_, rfl, ?_⟩
  have hst := hst.join (idx := []) (rest := [0, 1, 2, 3, 4, 5, 6]) rfl hst268
  refine OA.next ⟨(hst.blkN 3 rfl 0 32), trivial⟩ ?_
  refine OA.act (i := 7) [0] (by kernel_rfl) rfl rfl (by kernel_rfl) (by kernel_rfl) ?_
  refine OW.row (α := Int) (e := 25) (enc := encInt .i64) (sz := 1) hst rfl rfl rfl [r261, r265] rfl (fun _ => rfl) rfl rfl (fun _ => by kernel_rfl) ?_
  intro g269 w270 hst
  refine OA.next ⟨(hst.blkN 3 rfl 0 32), trivial⟩ ?_
  refine OA.act (i := 8) [0] (by kernel_rfl) rfl rfl (by kernel_rfl) (by kernel_rfl) ?_
  obtain ⟨r271, hr272, hF⟩ := bs hF
  refine OW.fn rfl rfl rfl rfl (by kernel_rfl) (judge_first_ok _ (.slice (some ⟨g269, 0, none⟩) 2 2) ([r261, r265]) r271 hr272 (hst.part [] rfl) (hst.rd 7 rfl (fun _ => rfl) [] rfl (hst.len 7 rfl).1)) ?_
  rintro e w273 ⟨rfl, hst274⟩
  refine ⟨_, rfl, ?_⟩
  have hst := hst.join (idx := []) (rest := [0, 1, 2, 3, 4, 5, 6, 7]) rfl hst274
  refine OA.next ⟨(hst.blkN 3 rfl 0 32), trivial⟩ ?_
  refine OA.act (i := 9) [] (by kernel_rfl) rfl rfl (by kernel_rfl) (by kernel_rfl) ?_
  refine OW.stB hst 1 rfl rfl rfl rfl rfl (by kernel_rfl) rfl rfl (arrC (enc_api_Type) 8 o80.2) rfl ?_
  intro w275 hst
  refine OA.next trivial ?_
  refine OA.act (i := 10) [] (by kernel_rfl) rfl rfl (by kernel_rfl) (by kernel_rfl) ?_
  refine pu 1 [(5, I r271)] (OA.next trivial ?_)
  refine OA.fin (by kernel_rfl) (by kernel_rfl) (QW.next (CW.ret (QW.block_ret (QW.then_ret ?_))))
  obtain rfl := inj hF
  refine QW.ret_ct rfl rfl (run_loadN (cs := (arrC (enc_api_Type) 8 o80.2)) (by kernel_rfl) (by kernel_rfl) (hst.blkN 1 rfl 0 32)) rfl ?_
  exact ⟨S77, rfl, hst.keep [0] rfl⟩
 refine rg ?_
 refine pu 2 [(100, .bool (o80.1.Op == 13))] (nx ?_)
 refine br ((o80.1.Op == 13)) hF (fun hF hc276 => ?_) (fun hF hc276 => ?_)
 ·refine CW.plan (by kernel_rfl) ?_
  intro w290 hch291
  have hst := hst.same hch291
  refine OA.pure [0] [(102, .pointer (some ⟨b78, 1, none⟩))] (by kernel_rfl) ?_
  refine OA.ld (i := 1) rfl (by kernel_rfl) rfl rfl rfl (by kernel_rfl) (hst.blk 2 rfl rfl) ?_
  refine OA.act (i := 2) [1] (by kernel_rfl) rfl rfl (by kernel_rfl) (by kernel_rfl) ?_
  obtain ⟨r292, hr293, hF⟩ := bs hF
  refine OW.fn rfl rfl rfl rfl (by kernel_rfl) (span_Full_ok _ r292 hr293 (hst.part [] rfl)) ?_
  rintro e w294 ⟨rfl, hst295⟩
  refine ⟨_, rfl, ?_⟩
  have hst := hst.join (idx := []) (rest := [0, 1, 2, 3, 4, 5]) rfl hst295
  refine OA.next ⟨(hst.blk 2 rfl rfl), trivial⟩ ?_
  refine OA.act (i := 3) [1] (by kernel_rfl) rfl rfl (by kernel_rfl) (by kernel_rfl) ?_
  obtain ⟨r296, hr297, hF⟩ := bs hF
  refine OW.fn rfl rfl rfl rfl (by kernel_rfl) (judge_number_ok _ r292 r296 hr297 (hst.part [] rfl)) ?_
  rintro e w298 ⟨rfl, hst299⟩
  refine ⟨_, rfl, ?_⟩
  have hst := hst.join (idx := []) (rest := [0, 1, 2, 3, 4, 5]) rfl hst299
  refine OA.next ⟨(hst.blk 2 rfl rfl), trivial⟩ ?_
  obtain ⟨i300, hi301, hF⟩ := bs hF
  refine OA.val (i := 4) (v := .pointer (some ⟨b79, 0 + Int.toNat o80.1.D * 4, none⟩)) rfl (by kernel_rfl) rfl rfl rfl rfl (fun a w ha => aidx_run (n := 8) 154 4 rfl rfl rfl (ain_some hi301).1 (ain_some hi301).2.1 (by kernel_rfl) (by kernel_rfl) a w ha) ?_
  refine OA.act (i := 5) [] (by kernel_rfl) rfl rfl (by kernel_rfl) (by kernel_rfl) ?_
  refine OW.stA hst 3 rfl rfl rfl rfl rfl (by kernel_rfl) rfl enc_api_Type (fun _ => rfl) 8 o80.2 0 rfl rfl hi301 0 rfl rfl r296 rfl (arrC (enc_api_Type) 8 (aset o80.2 i300 r296)) rfl ?_
  intro w302 hst
  refine OA.next trivial ?_
  refine OA.fin (by kernel_rfl) (by kernel_rfl) (QW.block_normal (QW.next (rg ?_)))
  refine OW.ldN (cs := (arrC (enc_api_Type) 8 (aset o80.2 i300 r296))) rfl rfl rfl rfl (by kernel_rfl) (by kernel_rfl) (hst.blkN 3 rfl 0 32) ?_
  refine OW.stB hst 1 rfl rfl rfl rfl rfl (by kernel_rfl) rfl rfl (arrC (enc_api_Type) 8 (aset o80.2 i300 r296)) rfl ?_
  intro w304 hst
  refine pu 1 [(5, I 0)] (nx (CW.ret ?_))
  obtain rfl := inj hF
  refine QW.ret_ct rfl rfl (run_loadN (cs := (arrC (enc_api_Type) 8 (aset o80.2 i300 r296))) (by kernel_rfl) (by kernel_rfl) (hst.blkN 1 rfl 0 32)) rfl ?_
  exact ⟨S77, rfl, hst.keep [0] rfl⟩
 refine rg ?_
 refine pu 2 [(107, .bool (o80.1.Op == 14))] (nx ?_)
 refine br ((o80.1.Op == 14)) hF (fun hF hc305 => ?_) (fun hF hc305 => ?_)
 ·refine rg ?_
  refine pu 1 [(109, .pointer (some ⟨b78, 1, none⟩))] ?_
  refine OW.ld rfl rfl rfl rfl (by kernel_rfl) (hst.blk 2 rfl rfl) ?_
  refine pu 1 [(111, .pointer (some ⟨b78, 4, none⟩))] ?_
  refine OW.ld rfl rfl rfl rfl (by kernel_rfl) (hst.blk 2 rfl rfl) ?_
  refine pu 1 [(113, .agg [I 2, U 0, U 0, I o80.1.Imm].toArray)] ?_
  obtain ⟨i309, hi310, hF⟩ := bs hF
  refine OW.op (v := .pointer (some ⟨b79, 0 + Int.toNat o80.1.D * 4, none⟩)) rfl rfl rfl rfl (fun a ha => aidx_run (n := 8) 154 4 rfl rfl rfl (ain_some hi310).1 (ain_some hi310).2.1 (by kernel_rfl) (by kernel_rfl) a _ ha) ?_
  refine OW.stA hst 3 rfl rfl rfl rfl rfl (by kernel_rfl) rfl enc_api_Type (fun _ => rfl) 8 o80.2 0 rfl rfl hi310 0 rfl rfl (api_Type.mk 2 (api_Span.mk 0 0) o80.1.Imm) rfl (arrC (enc_api_Type) 8 (aset o80.2 i309 (api_Type.mk 2 (api_Span.mk 0 0) o80.1.Imm))) rfl ?_
  intro w311 hst
  refine nx (CW.seq ?_)
  obtain ⟨v312, S313, v314, S315, v316, S317, v318, S319, v320, S321, hst⟩ := hst.openQ5 0 rfl rfl rfl rfl rfl rfl
  have hbo322 := hst.borOut 6 rfl
  have hbr323 := hbo322.bor hb
  have hbo324 := hst.borOut 7 rfl
  have hbr325 := hbo324.bor hb
  have hst := hst.toRow1 8 rfl
  have hst := hst.toRow1 9 rfl
  have hst := hst.toRow1 10 rfl
  have hst := hst.keep [0, 1, 2, 3, 4, 5, 8, 9, 10] rfl
  obtain ⟨l326, a327, c328, rfl⟩ := hbr323.len
  obtain ⟨l329, a330, c331, rfl⟩ := hbr325.len
  obtain ⟨l332, a333, c334, rfl⟩ := hst.len 6 rfl
  obtain ⟨l335, a336, c337, rfl⟩ := hst.len 7 rfl
  obtain ⟨l338, a339, c340, rfl⟩ := hst.len 8 rfl
  have hst : St _ _ _ [blkI b1 146 [.slice a327 (p0.Module.Maps).length c328, .slice a330 (p0.Module.Code).length c331, .slice a333 (p0.came).length c334, .slice a336 (p0.any).length c337, .slice a339 (p0.loops).length c340], _, _, _, _, _, _, _, _] := hst
  refine CW.still (by kernel_rfl) (by kernel_rfl) ?_
  intro w343 hch344
  have hst := hst.same hch344
  refine OS.pure 1 [(115, .pointer (some ⟨b78, 4, none⟩))] rfl (by kernel_rfl) ?_
  refine OS.ld rfl rfl rfl rfl rfl (by kernel_rfl) (hst.blk 2 rfl rfl) ?_
  refine OS.pure 4 [(120, Pt b1)] rfl (by kernel_rfl) ?_
  refine OS.ld rfl rfl rfl rfl rfl (by kernel_rfl) (hst.blk 0 rfl rfl) ?_
  refine OS.pure 2 [(123, .bool (decide (o80.1.Imm ≥ ((p0.Module.Maps).length : Int))))] rfl (by kernel_rfl) ?_
  refine OS.fin rfl (QW.next ?_)
  refine br (decide (o80.1.Imm ≥ ((p0.Module.Maps).length : Int))) hF (fun hF hc345 => ?_) (fun hF hc345 => ?_)
  ·refine rg ?_
   refine OW.ldN (cs := (arrC (enc_api_Type) 8 (aset o80.2 i309 (api_Type.mk 2 (api_Span.mk 0 0) o80.1.Imm)))) rfl rfl rfl rfl (by kernel_rfl) (by kernel_rfl) (hst.blkN 3 rfl 0 32) ?_
   refine OW.stB hst 1 rfl rfl rfl rfl rfl (by kernel_rfl) rfl rfl (arrC (enc_api_Type) 8 (aset o80.2 i309 (api_Type.mk 2 (api_Span.mk 0 0) o80.1.Imm))) rfl ?_
   intro w347 hst
   refine pu 1 [(5, I 35)] (nx (CW.ret (QW.block_ret (QW.then_ret ?_))))
   have hst := hst.borIn hbo322
   have hst := hst.borIn hbo324
   have hst := hst.toIt 6 rfl (fun _ => rfl) (by decide)
   have hst := hst.toIt 7 rfl (fun _ => rfl) (by decide)
   have hst := hst.toIt 8 rfl (fun _ => rfl) (by decide)
   obtain ⟨S348, hst⟩ := hst.shutP5 (R_t146 wb Sb) rfl 0 9 10 6 7 8 [1, 2, 3, 4, 5] rfl rfl rfl rfl rfl rfl rfl p0 rfl rfl
   obtain rfl := inj hF
   refine QW.ret_ct rfl rfl (run_loadN (cs := (arrC (enc_api_Type) 8 (aset o80.2 i309 (api_Type.mk 2 (api_Span.mk 0 0) o80.1.Imm)))) (by kernel_rfl) (by kernel_rfl) (hst.blkN 0 rfl 0 32)) rfl ?_
   exact ⟨S348, rfl, hst.keep [5] rfl⟩
  refine CW.skip (QW.block_normal (QW.next (rg ?_)))
  refine OW.ldN (cs := (arrC (enc_api_Type) 8 (aset o80.2 i309 (api_Type.mk 2 (api_Span.mk 0 0) o80.1.Imm)))) rfl rfl rfl rfl (by kernel_rfl) (by kernel_rfl) (hst.blkN 3 rfl 0 32) ?_
  refine OW.stB hst 1 rfl rfl rfl rfl rfl (by kernel_rfl) rfl rfl (arrC (enc_api_Type) 8 (aset o80.2 i309 (api_Type.mk 2 (api_Span.mk 0 0) o80.1.Imm))) rfl ?_
  intro w350 hst
  refine pu 1 [(5, I 0)] (nx (CW.ret ?_))
  have hst := hst.borIn hbo322
  have hst := hst.borIn hbo324
  have hst := hst.toIt 6 rfl (fun _ => rfl) (by decide)
  have hst := hst.toIt 7 rfl (fun _ => rfl) (by decide)
  have hst := hst.toIt 8 rfl (fun _ => rfl) (by decide)
  obtain ⟨S351, hst⟩ := hst.shutP5 (R_t146 wb Sb) rfl 0 9 10 6 7 8 [1, 2, 3, 4, 5] rfl rfl rfl rfl rfl rfl rfl p0 rfl rfl
  obtain rfl := inj hF
  refine QW.ret_ct rfl rfl (run_loadN (cs := (arrC (enc_api_Type) 8 (aset o80.2 i309 (api_Type.mk 2 (api_Span.mk 0 0) o80.1.Imm)))) (by kernel_rfl) (by kernel_rfl) (hst.blkN 0 rfl 0 32)) rfl ?_
  exact ⟨S351, rfl, hst.keep [5] rfl⟩
 refine rg ?_
 refine pu 2 [(125, .bool (o80.1.Op == 15))] (nx ?_)
 refine br ((o80.1.Op == 15)) hF (fun hF hc352 => ?_) (fun hF hc352 => ?_)
 ·refine CW.skip (QW.block_normal (QW.next (rg ?_)))
  refine OW.ldN (cs := (arrC (enc_api_Type) 8 o80.2)) rfl rfl rfl rfl (by kernel_rfl) (by kernel_rfl) (hst.blkN 3 rfl 0 32) ?_
  refine OW.stB hst 1 rfl rfl rfl rfl rfl (by kernel_rfl) rfl rfl (arrC (enc_api_Type) 8 o80.2) rfl ?_
  intro w354 hst
  refine pu 1 [(5, I 0)] (nx (CW.ret ?_))
  obtain rfl := inj hF
  refine QW.ret_ct rfl rfl (run_loadN (cs := (arrC (enc_api_Type) 8 o80.2)) (by kernel_rfl) (by kernel_rfl) (hst.blkN 1 rfl 0 32)) rfl ?_
  exact ⟨S77, rfl, hst.keep [0] rfl⟩
 refine CW.seq (rg ?_)
 refine pu 2 [(127, .bool (o80.1.Op == 16))] (nx ?_)
 obtain ⟨o358, ho359, hF⟩ := bs hF
 refine CW.cutK (fun a w1 => Rep 194 [(0, Pt b1), (1, I p1), (4, Pt b4), (6, Pt b78), (7, Pt b79), (8, Pt b116), (9, Pt b118), (43, I o80.1.Op), (127, .bool o358)] a ∧ St w (fp [itI (R_t92 wb Sb) [Pt b1] S0 p0]) w1 [itI (R_t92 wb Sb) [Pt b1] S77 p0, blkI b4 156 [I 0, U 0, U 0, I 0, I 0, U 0, U 0, I 0, I 0, U 0, U 0, I 0, I 0, U 0, U 0, I 0, I 0, U 0, U 0, I 0, I 0, U 0, U 0, I 0, I 0, U 0, U 0, I 0, I 0, U 0, U 0, I 0], blkI b78 42 [I o80.1.Op, I o80.1.D, I o80.1.A, I o80.1.B, I o80.1.Imm], blkI b79 156 (arrC (enc_api_Type) 8 o80.2), blkI b116 154 [I (o80.2 i157).Kind, U (o80.2 i157).Span.Lo, U (o80.2 i157).Span.Hi, I (o80.2 i157).Map], blkI b118 154 [I o141.Kind, U o141.Span.Lo, U o141.Span.Hi, I o141.Map]]) ?_ ?_
 ·refine br ((o80.1.Op == 16)) ho359 (fun ho359 hc360 => ?_) (fun ho359 hc360 => ?_)
  ·refine CW.skip ?_
   obtain rfl := inj ho359
   exact QW.meet (fun a ha => ⟨ha.ag, hst.keep [0, 1, 2, 3, 4, 5] rfl⟩)
  refine rg ?_
  refine pu 2 [(127, .bool (o80.1.Op == 17))] (nx ?_)
  refine br ((o80.1.Op == 17)) ho359 (fun ho359 hc361 => ?_) (fun ho359 hc361 => ?_)
  ·refine CW.skip ?_
   obtain rfl := inj ho359
   exact QW.meet (fun a ha => ⟨ha.ag, hst.keep [0, 1, 2, 3, 4, 5] rfl⟩)
  refine rg ?_
  refine pu 2 [(127, .bool (o80.1.Op == 18))] (nx ?_)
  refine br ((o80.1.Op == 18)) ho359 (fun ho359 hc362 => ?_) (fun ho359 hc362 => ?_)
  ·refine CW.skip ?_
   obtain rfl := inj ho359
   exact QW.meet (fun a ha => ⟨ha.ag, hst.keep [0, 1, 2, 3, 4, 5] rfl⟩)
  refine CW.region ?_
  refine pu 2 [(127, .bool (o80.1.Op == 19))] (OW.nil rfl ?_)
  obtain rfl := inj ho359
  exact QW.meet (fun a ha => ⟨ha.ag, hst.keep [0, 1, 2, 3, 4, 5] rfl⟩)
 rintro a w1 ⟨ha, hst⟩
 refine CW.go ?_ ha
 refine br (o358) hF (fun hF hc363 => ?_) (fun hF hc363 => ?_)
 ·refine CW.seq ?_
  refine CW.plan (by kernel_rfl) ?_
  intro w373 hch374
  have hst := hst.same hch374
  refine OA.ldN (i := 0) (cs := (arrC (enc_api_Type) 8 o80.2)) rfl (by kernel_rfl) rfl rfl rfl (by kernel_rfl) (by kernel_rfl) (hst.blkN 3 rfl 0 32) ?_
  refine OA.ldN (i := 1) (cs := [I (o80.2 i157).Kind, U (o80.2 i157).Span.Lo, U (o80.2 i157).Span.Hi, I (o80.2 i157).Map]) rfl (by kernel_rfl) rfl rfl rfl (by kernel_rfl) (by kernel_rfl) (hst.blkN 4 rfl 0 4) ?_
  refine OA.ldN (i := 2) (cs := [I o141.Kind, U o141.Span.Lo, U o141.Span.Hi, I o141.Map]) rfl (by kernel_rfl) rfl rfl rfl (by kernel_rfl) (by kernel_rfl) (hst.blkN 5 rfl 0 4) ?_
  refine OA.act (i := 3) [0] (by kernel_rfl) rfl rfl (by kernel_rfl) (by kernel_rfl) ?_
  refine OW.row (α := api_Type) (e := 154) (enc := enc_api_Type) (sz := 4) hst rfl rfl rfl [(o80.2 i157), o141] rfl (fun _ => rfl) rfl rfl (fun _ => by kernel_rfl) ?_
  intro g375 w376 hst
  refine OA.next ⟨(hst.blkN 3 rfl 0 32), trivial⟩ ?_
  refine OA.act (i := 4) [0] (by kernel_rfl) rfl rfl (by kernel_rfl) (by kernel_rfl) ?_
  obtain ⟨r377, hr378, hF⟩ := bs hF
  refine OW.fn rfl rfl rfl rfl (by kernel_rfl) (judge_nums_ok _ (.slice (some ⟨g375, 0, none⟩) 2 2) ([(o80.2 i157), o141]) r377 hr378 (hst.part [] rfl) (hst.rd 6 rfl (fun _ => rfl) [] rfl (hst.len 6 rfl).1)) ?_
  rintro e w379 ⟨rfl, hst380⟩
  refine ⟨_, rfl, ?_⟩
  have hst := hst.join (idx := []) (rest := [0, 1, 2, 3, 4, 5, 6]) rfl hst380
  refine OA.next ⟨(hst.blkN 3 rfl 0 32), trivial⟩ ?_
  refine OA.act (i := 5) [] (by kernel_rfl) rfl rfl (by kernel_rfl) (by kernel_rfl) ?_
  refine OW.stB hst 1 rfl rfl rfl rfl rfl (by kernel_rfl) rfl rfl (arrC (enc_api_Type) 8 o80.2) rfl ?_
  intro w381 hst
  refine OA.next trivial ?_
  refine OA.act (i := 6) [] (by kernel_rfl) rfl rfl (by kernel_rfl) (by kernel_rfl) ?_
  refine pu 1 [(5, I r377)] (OA.next trivial ?_)
  refine OA.fin (by kernel_rfl) (by kernel_rfl) (QW.next (CW.ret (QW.block_ret (QW.then_ret ?_))))
  obtain rfl := inj hF
  refine QW.ret_ct rfl rfl (run_loadN (cs := (arrC (enc_api_Type) 8 o80.2)) (by kernel_rfl) (by kernel_rfl) (hst.blkN 1 rfl 0 32)) rfl ?_
  exact ⟨S77, rfl, hst.keep [0] rfl⟩
 refine rg ?_
 refine pu 2 [(137, .bool (o80.1.Op == 20))] (nx ?_)
 refine br ((o80.1.Op == 20)) hF (fun hF hc382 => ?_) (fun hF hc382 => ?_)
 ·refine CW.seq (rg ?_)
  refine OW.ldN (cs := [I (o80.2 i157).Kind, U (o80.2 i157).Span.Lo, U (o80.2 i157).Span.Hi, I (o80.2 i157).Map]) rfl rfl rfl rfl (by kernel_rfl) (by kernel_rfl) (hst.blkN 4 rfl 0 4) ?_
  refine OW.row (α := api_Type) (e := 154) (enc := enc_api_Type) (sz := 4) hst rfl rfl rfl [(o80.2 i157)] rfl (fun _ => rfl) rfl rfl (fun _ => by kernel_rfl) ?_
  intro g389 w390 hst
  obtain ⟨r391, hr392, hF⟩ := bs hF
  refine OW.fn rfl rfl rfl rfl (by kernel_rfl) (judge_nums_ok _ (.slice (some ⟨g389, 0, none⟩) 1 1) ([(o80.2 i157)]) r391 hr392 (hst.part [] rfl) (hst.rd 6 rfl (fun _ => rfl) [] rfl (hst.len 6 rfl).1)) ?_
  rintro e w393 ⟨rfl, hst394⟩
  refine ⟨_, rfl, ?_⟩
  have hst := hst.join (idx := []) (rest := [0, 1, 2, 3, 4, 5, 6]) rfl hst394
  refine pu 1 [(10, I r391)] (nx (rg ?_))
  refine pu 2 [(143, .bool (r391 != 0))] (nx ?_)
  refine br ((r391 != 0)) hF (fun hF hc395 => ?_) (fun hF hc395 => ?_)
  ·refine rg ?_
   refine OW.ldN (cs := (arrC (enc_api_Type) 8 o80.2)) rfl rfl rfl rfl (by kernel_rfl) (by kernel_rfl) (hst.blkN 3 rfl 0 32) ?_
   refine pu 1 [(145, I r391)] ?_
   refine OW.stB hst 1 rfl rfl rfl rfl rfl (by kernel_rfl) rfl rfl (arrC (enc_api_Type) 8 o80.2) rfl ?_
   intro w397 hst
   refine pu 1 [(5, I r391)] (nx (CW.ret (QW.then_ret (QW.block_ret (QW.then_ret ?_)))))
   obtain rfl := inj hF
   refine QW.ret_ct rfl rfl (run_loadN (cs := (arrC (enc_api_Type) 8 o80.2)) (by kernel_rfl) (by kernel_rfl) (hst.blkN 1 rfl 0 32)) rfl ?_
   exact ⟨S77, rfl, hst.keep [0] rfl⟩
  refine CW.skip (QW.next (rg ?_))
  refine pu 1 [(146, I 0)] (nx ?_)
  obtain ⟨o592, ho593, hF⟩ := bs hF
  refine CW.cutQ (fun a w1 => ∃ (t594 : Unit) (S591 : List Nat), o592 = .inl t594 ∧ Rep 194 [(4, Pt b4), (7, Pt b79)] a ∧ St w (fp [itI (R_t92 wb Sb) [Pt b1] S0 p0]) w1 [blkI b4 156 [I 0, U 0, U 0, I 0, I 0, U 0, U 0, I 0, I 0, U 0, U 0, I 0, I 0, U 0, U 0, I 0, I 0, U 0, U 0, I 0, I 0, U 0, U 0, I 0, I 0, U 0, U 0, I 0, I 0, U 0, U 0, I 0], blkI b79 156 (arrC (enc_api_Type) 8 o80.2), itI (R_t92 wb Sb) [Pt b1] S591 p0]) ?_ ?_
  ·refine CW.block ?_
   refine CW.loop (fun n a w1 => ∃ (i723 : Nat) (s721 : Unit) (S722 : List Nat), i723 + n = 8 ∧ Rep 194 [(0, Pt b1), (1, I p1), (4, Pt b4), (6, Pt b78), (7, Pt b79), (146, I (i723 : Int))] a ∧ St w (fp [itI (R_t92 wb Sb) [Pt b1] S0 p0]) w1 [itI (R_t92 wb Sb) [Pt b1] S722 p0, blkI b4 156 [I 0, U 0, U 0, I 0, I 0, U 0, U 0, I 0, I 0, U 0, U 0, I 0, I 0, U 0, U 0, I 0, I 0, U 0, U 0, I 0, I 0, U 0, U 0, I 0, I 0, U 0, U 0, I 0, I 0, U 0, U 0, I 0], blkI b78 42 [I o80.1.Op, I o80.1.D, I o80.1.A, I o80.1.B, I o80.1.Imm], blkI b79 156 (arrC (enc_api_Type) 8 o80.2)] ∧ forN (judge_judge_one_l1 p0 p1 o80) (fun (s721 : Unit) => (.inl ())) n i723 s721 = some o592) 8 (fun a ha => ⟨0, (), S77, Nat.zero_add _, ha.ag, hst.keep [0, 1, 2, 3] rfl, ho593⟩) ?_
   rintro n719 a w1 ⟨i723, s721, S722, hi724, ha, hst, hl720⟩
   refine CW.go ?_ ha
   refine rg ?_
   refine pu 1 [(147, .bool (decide ((i723 : Int) < 8)))] (nx (CW.seq ?_))
   rcases bft (decide ((i723 : Int) < 8)) with hc725 | hc725
   ·rcases n719 with _ | n719
    ·exact (cnt0 hi724 hc725).elim
    refine CW.cond_t rfl hc725 (CW.skip (QW.next (CW.seq (CW.block (rg ?_)))))
    refine pu 2 [(11, I (i723 : Int))] (nx (CW.seq ?_))
    obtain ⟨v726, S727, v728, S729, v730, S731, v732, S733, v734, S735, hst⟩ := hst.openQ5 0 rfl rfl rfl rfl rfl rfl
    have hbo736 := hst.borOut 4 rfl
    have hbr737 := hbo736.bor hb
    have hbo738 := hst.borOut 5 rfl
    have hbr739 := hbo738.bor hb
    have hst := hst.toRow1 6 rfl
    have hst := hst.toRow1 7 rfl
    have hst := hst.toRow1 8 rfl
    have hst := hst.keep [0, 1, 2, 3, 6, 7, 8] rfl
    obtain ⟨l740, a741, c742, rfl⟩ := hbr737.len
    obtain ⟨l743, a744, c745, rfl⟩ := hbr739.len
    obtain ⟨l746, a747, c748, rfl⟩ := hst.len 4 rfl
    obtain ⟨l749, a750, c751, rfl⟩ := hst.len 5 rfl
    obtain ⟨l752, a753, c754, rfl⟩ := hst.len 6 rfl
    have hst : St _ _ _ [blkI b1 146 [.slice a741 (p0.Module.Maps).length c742, .slice a744 (p0.Module.Code).length c745, .slice a747 (p0.came).length c748, .slice a750 (p0.any).length c751, .slice a753 (p0.loops).length c754], _, _, _, _, _, _] := hst
    refine CW.tail 15 (by kernel_rfl) (by kernel_rfl) ?_
    intro w769 hch770
    have hst := hst.same hch770
    refine OS.pure 1 [(149, I (i723 : Int))] rfl (by kernel_rfl) ?_
    obtain ⟨i771, hi772, hl720⟩ := bs hl720
    refine OS.op (v := .pointer (some ⟨b79, 0 + Int.toNat (i723 : Int) * 4, none⟩)) rfl rfl rfl rfl rfl (fun a ha => aidx_run (n := 8) 154 4 rfl rfl rfl (ain_some hi772).1 (ain_some hi772).2.1 (by kernel_rfl) (by kernel_rfl) a _ ha) ?_
    refine OS.ldN (cs := enc_api_Type (o80.2 i771)) rfl rfl rfl rfl rfl (by kernel_rfl) (by kernel_rfl) (hst.arrB 3 rfl enc_api_Type (fun _ => rfl) 8 o80.2 0 rfl rfl hi772) ?_
    refine OS.pure 3 [(154, .pointer (some ⟨b1, 2, none⟩))] rfl (by kernel_rfl) ?_
    refine OS.ld rfl rfl rfl rfl rfl (by kernel_rfl) (hst.blk 0 rfl rfl) ?_
    refine OS.pure 2 [(156, I p1), (157, .pointer (some ⟨b78, 1, none⟩))] rfl (by kernel_rfl) ?_
    refine OS.ld rfl rfl rfl rfl rfl (by kernel_rfl) (hst.blk 2 rfl rfl) ?_
    refine OS.pure 2 [(159, I (w64 (p1 - o80.1.D))), (160, I (i723 : Int))] rfl (by kernel_rfl) ?_
    obtain ⟨x773, hx774, hl720⟩ := bs hl720
    obtain ⟨g776, o777, c778, hv775⟩ := hst.rowv 4 rfl hx774
    refine OS.idx 156 32 rfl rfl rfl rfl rfl hv775 rfl (idx_some hx774).1 (idx_some hx774).2.1 (by kernel_rfl) (by kernel_rfl) ?_
    refine OS.op (v := .pointer (some ⟨g776, o777 + Int.toNat (w64 (p1 - o80.1.D)) * 32 + 0 + Int.toNat (i723 : Int) * 4, none⟩)) rfl rfl rfl rfl rfl (fun a ha => aidx_run (n := 8) 154 4 rfl rfl rfl (ain_some hi772).1 (ain_some hi772).2.1 (by kernel_rfl) (by kernel_rfl) a _ ha) ?_
    refine OS.ldN (cs := enc_api_Type (x773 i771)) rfl rfl rfl rfl rfl (by kernel_rfl) (by kernel_rfl) (cell_arr (hst.rowc 4 rfl (fun _ => rfl) hx774 hv775) enc_api_Type (fun _ => rfl) 8 x773 0 rfl rfl hi772) ?_
    refine OS.on ?_
    obtain ⟨r779, hr780, hl720⟩ := bs hl720
    refine OW.fn rfl rfl rfl rfl (by kernel_rfl) (judge_fits_ok _ (o80.2 i771) (x773 i771) r779 hr780 (hst.part [] rfl)) ?_
    rintro e w781 ⟨rfl, hst782⟩
    refine ⟨_, rfl, ?_⟩
    have hst := hst.join (idx := []) (rest := [0, 1, 2, 3, 4, 5, 6]) rfl hst782
    refine pu 1 [(165, .bool (!r779))] (nx ?_)
    refine br ((!r779)) hl720 (fun hl720 hc783 => ?_) (fun hl720 hc783 => ?_)
    ·refine rg ?_
     refine OW.ldN (cs := (arrC (enc_api_Type) 8 o80.2)) rfl rfl rfl rfl (by kernel_rfl) (by kernel_rfl) (hst.blkN 3 rfl 0 32) ?_
     refine OW.stB hst 1 rfl rfl rfl rfl rfl (by kernel_rfl) rfl rfl (arrC (enc_api_Type) 8 o80.2) rfl ?_
     intro w785 hst
     refine pu 1 [(5, I 33)] (nx (CW.ret (QW.block_ret (QW.then_ret (QW.then_ret (QW.block_ret (QW.then_ret (QW.block_ret (QW.then_ret ?_)))))))))
     have hst := hst.borIn hbo736
     have hst := hst.borIn hbo738
     have hst := hst.toIt 4 rfl (fun _ => rfl) (by decide)
     have hst := hst.toIt 5 rfl (fun _ => rfl) (by decide)
     have hst := hst.toIt 6 rfl (fun _ => rfl) (by decide)
     obtain ⟨S786, hst⟩ := hst.shutP5 (R_t146 wb Sb) rfl 0 7 8 4 5 6 [1, 2, 3] rfl rfl rfl rfl rfl rfl rfl p0 rfl rfl
     obtain rfl := inj hl720
     obtain rfl := inj hF
     refine QW.ret_ct rfl rfl (run_loadN (cs := (arrC (enc_api_Type) 8 o80.2)) (by kernel_rfl) (by kernel_rfl) (hst.blkN 0 rfl 0 32)) rfl ?_
     exact ⟨S786, rfl, hst.keep [3] rfl⟩
    refine CW.skip (QW.block_normal (QW.next (CW.region ?_)))
    refine pu 2 [(146, I (w64 ((i723 : Int) + 1)))] (OW.nil rfl ?_)
    have hst := hst.borIn hbo736
    have hst := hst.borIn hbo738
    have hst := hst.toIt 4 rfl (fun _ => rfl) (by decide)
    have hst := hst.toIt 5 rfl (fun _ => rfl) (by decide)
    have hst := hst.toIt 6 rfl (fun _ => rfl) (by decide)
    obtain ⟨S787, hst⟩ := hst.shutP5 (R_t146 wb Sb) rfl 0 7 8 4 5 6 [1, 2, 3] rfl rfl rfl rfl rfl rfl rfl p0 rfl rfl
    refine QW.say 146 rfl (congrArg (Value.int .i64) (w64_cnt hc725 (by decide))) ?_
    exact QW.meet (fun a ha => ⟨n719, Nat.lt_succ_self _, i723 + 1, (), S787, cnt_next hi724, ha.ag, hst.keep [3, 0, 1, 2] rfl, hl720⟩)
   rcases n719 with _ | n719
   ·refine CW.cond_f rfl hc725 ?_
    refine CW.exit (QW.then_exit (QW.then_exit ?_))
    refine QW.block_here ?_
    obtain rfl := inj hl720
    exact QW.meet (fun a ha => ⟨(), S722, rfl, ha.ag, hst.keep [1, 3, 0] rfl⟩)
   exact (cnt1 hi724 hc725).elim
  rintro a w1 ⟨t594, S591, rfl, ha, hst⟩
  refine QW.go ?_ ha
  refine QW.block_normal (QW.next (rg ?_))
  refine OW.ldN (cs := (arrC (enc_api_Type) 8 o80.2)) rfl rfl rfl rfl (by kernel_rfl) (by kernel_rfl) (hst.blkN 1 rfl 0 32) ?_
  refine OW.stB hst 0 rfl rfl rfl rfl rfl (by kernel_rfl) rfl rfl (arrC (enc_api_Type) 8 o80.2) rfl ?_
  intro w789 hst
  refine pu 1 [(5, I 0)] (nx (CW.ret ?_))
  obtain rfl := inj hF
  refine QW.ret_ct rfl rfl (run_loadN (cs := (arrC (enc_api_Type) 8 o80.2)) (by kernel_rfl) (by kernel_rfl) (hst.blkN 0 rfl 0 32)) rfl ?_
  exact ⟨S591, rfl, hst.keep [2] rfl⟩
 refine rg ?_
 refine pu 2 [(168, .bool (o80.1.Op == 21))] (nx ?_)
 refine br ((o80.1.Op == 21)) hF (fun hF hc790 => ?_) (fun hF hc790 => ?_)
 ·refine rg ?_
  refine pu 1 [(170, .pointer (some ⟨b78, 4, none⟩))] ?_
  refine OW.ld rfl rfl rfl rfl (by kernel_rfl) (hst.blk 2 rfl rfl) ?_
  refine pu 1 [(12, I o80.1.Imm)] (nx (rg ?_))
  refine pu 2 [(172, I o80.1.Imm), (173, I o80.1.Imm)] ?_
  obtain ⟨r805, hr806, hF⟩ := bs hF
  refine OW.fn rfl rfl rfl rfl (by kernel_rfl) (sigs_Args_ok _ fu o80.1.Imm r805 hr806 (hst.part [] rfl) (hT1.give hst [])) ?_
  rintro e w807 ⟨v809, rfl, hst808⟩
  refine ⟨_, rfl, ?_⟩
  have hst := hst.join (idx := []) (rest := [0, 1, 2, 3, 4, 5]) rfl hst808
  obtain ⟨l810, a811, c812, rfl⟩ := hst.len 0 rfl
  refine pu 2 [(176, I (w64 (1 + ((r805).length : Int))))] ?_
  obtain ⟨ys813, hcut814, hF⟩ := bs hF
  refine OW.op (v := .slice (shd (some ⟨b79, 0, none⟩) 8 (Int.toNat 1) 4) (ys813).length (8 - Int.toNat 1)) rfl rfl rfl rfl (fun a ha => asl_sub (e := 154) (xs := arrL 8 o80.2) 4 rfl rfl rfl rfl rfl hcut814 (by kernel_rfl) (by kernel_rfl) a _ ha) ?_
  obtain ⟨r815, hr816, hF⟩ := bs hF
  refine OW.fn rfl rfl rfl rfl (by kernel_rfl) (sigs_Check_ok _ fu o80.1.Imm (.slice (shd (some ⟨b79, 0, none⟩) 8 (Int.toNat 1) 4) (ys813).length (8 - Int.toNat 1)) ys813 r815 hr816 (hst.part [] rfl) ((hst.arrRd 4 rfl enc_api_Type (fun _ => rfl) 8 o80.2 0 rfl rfl rfl [] rfl).part hcut814) (hT1.give hst [])) ?_
  rintro e w817 ⟨rfl, hst818⟩
  refine ⟨_, rfl, ?_⟩
  have hst := hst.join (idx := []) (rest := [0, 1, 2, 3, 4, 5, 6]) rfl hst818
  refine pu 1 [(13, I r815)] (nx (rg ?_))
  refine pu 1 [(180, I o80.1.Imm)] ?_
  obtain ⟨r824, hr825, hF⟩ := bs hF
  refine OW.fn rfl rfl rfl rfl (by kernel_rfl) (sigs_Result_ok _ o80.1.Imm r824 hr825 (hst.part [] rfl) (hT1.give hst [])) ?_
  rintro e w826 ⟨rfl, hst827⟩
  refine ⟨_, rfl, ?_⟩
  have hst := hst.join (idx := []) (rest := [0, 1, 2, 3, 4, 5, 6]) rfl hst827
  refine pu 3 [(182, .agg [I r824.1.Kind, U r824.1.Span.Lo, U r824.1.Span.Hi, I r824.1.Map].toArray)] ?_
  refine OW.op (v := Pt b79) rfl rfl rfl rfl (fun a ha => aidx_run (n := 8) (q := 0) 154 4 rfl rfl rfl (by decide) (by decide) (by kernel_rfl) (by kernel_rfl) a _ ha) ?_
  refine OW.stB hst 4 rfl rfl rfl rfl rfl (by kernel_rfl) rfl rfl [I r824.1.Kind, U r824.1.Span.Lo, U r824.1.Span.Hi, I r824.1.Map, I (o80.2 1).Kind, U (o80.2 1).Span.Lo, U (o80.2 1).Span.Hi, I (o80.2 1).Map, I (o80.2 2).Kind, U (o80.2 2).Span.Lo, U (o80.2 2).Span.Hi, I (o80.2 2).Map, I (o80.2 3).Kind, U (o80.2 3).Span.Lo, U (o80.2 3).Span.Hi, I (o80.2 3).Map, I (o80.2 4).Kind, U (o80.2 4).Span.Lo, U (o80.2 4).Span.Hi, I (o80.2 4).Map, I (o80.2 5).Kind, U (o80.2 5).Span.Lo, U (o80.2 5).Span.Hi, I (o80.2 5).Map, I (o80.2 6).Kind, U (o80.2 6).Span.Lo, U (o80.2 6).Span.Hi, I (o80.2 6).Map, I (o80.2 7).Kind, U (o80.2 7).Span.Lo, U (o80.2 7).Span.Hi, I (o80.2 7).Map] rfl ?_
  intro w828 hst
  refine nx (rg ?_)
  refine OW.ldN (cs := [I r824.1.Kind, U r824.1.Span.Lo, U r824.1.Span.Hi, I r824.1.Map, I (o80.2 1).Kind, U (o80.2 1).Span.Lo, U (o80.2 1).Span.Hi, I (o80.2 1).Map, I (o80.2 2).Kind, U (o80.2 2).Span.Lo, U (o80.2 2).Span.Hi, I (o80.2 2).Map, I (o80.2 3).Kind, U (o80.2 3).Span.Lo, U (o80.2 3).Span.Hi, I (o80.2 3).Map, I (o80.2 4).Kind, U (o80.2 4).Span.Lo, U (o80.2 4).Span.Hi, I (o80.2 4).Map, I (o80.2 5).Kind, U (o80.2 5).Span.Lo, U (o80.2 5).Span.Hi, I (o80.2 5).Map, I (o80.2 6).Kind, U (o80.2 6).Span.Lo, U (o80.2 6).Span.Hi, I (o80.2 6).Map, I (o80.2 7).Kind, U (o80.2 7).Span.Lo, U (o80.2 7).Span.Hi, I (o80.2 7).Map]) rfl rfl rfl rfl (by kernel_rfl) (by kernel_rfl) (hst.blkN 4 rfl 0 32) ?_
  refine pu 1 [(186, I r815)] ?_
  refine OW.stB hst 2 rfl rfl rfl rfl rfl (by kernel_rfl) rfl rfl [I r824.1.Kind, U r824.1.Span.Lo, U r824.1.Span.Hi, I r824.1.Map, I (o80.2 1).Kind, U (o80.2 1).Span.Lo, U (o80.2 1).Span.Hi, I (o80.2 1).Map, I (o80.2 2).Kind, U (o80.2 2).Span.Lo, U (o80.2 2).Span.Hi, I (o80.2 2).Map, I (o80.2 3).Kind, U (o80.2 3).Span.Lo, U (o80.2 3).Span.Hi, I (o80.2 3).Map, I (o80.2 4).Kind, U (o80.2 4).Span.Lo, U (o80.2 4).Span.Hi, I (o80.2 4).Map, I (o80.2 5).Kind, U (o80.2 5).Span.Lo, U (o80.2 5).Span.Hi, I (o80.2 5).Map, I (o80.2 6).Kind, U (o80.2 6).Span.Lo, U (o80.2 6).Span.Hi, I (o80.2 6).Map, I (o80.2 7).Kind, U (o80.2 7).Span.Lo, U (o80.2 7).Span.Hi, I (o80.2 7).Map] rfl ?_
  intro w830 hst
  refine pu 1 [(5, I r815)] (nx (CW.ret (QW.block_ret (QW.then_ret ?_))))
  obtain rfl := inj hF
  refine QW.ret_ct rfl rfl (run_loadN (cs := [I r824.1.Kind, U r824.1.Span.Lo, U r824.1.Span.Hi, I r824.1.Map, I (o80.2 1).Kind, U (o80.2 1).Span.Lo, U (o80.2 1).Span.Hi, I (o80.2 1).Map, I (o80.2 2).Kind, U (o80.2 2).Span.Lo, U (o80.2 2).Span.Hi, I (o80.2 2).Map, I (o80.2 3).Kind, U (o80.2 3).Span.Lo, U (o80.2 3).Span.Hi, I (o80.2 3).Map, I (o80.2 4).Kind, U (o80.2 4).Span.Lo, U (o80.2 4).Span.Hi, I (o80.2 4).Map, I (o80.2 5).Kind, U (o80.2 5).Span.Lo, U (o80.2 5).Span.Hi, I (o80.2 5).Map, I (o80.2 6).Kind, U (o80.2 6).Span.Lo, U (o80.2 6).Span.Hi, I (o80.2 6).Map, I (o80.2 7).Kind, U (o80.2 7).Span.Lo, U (o80.2 7).Span.Hi, I (o80.2 7).Map]) (by kernel_rfl) (by kernel_rfl) (hst.blkN 2 rfl 0 32)) rfl ?_
  exact ⟨S77, rfl, hst.keep [1] rfl⟩
 refine rg ?_
 refine pu 2 [(187, .bool (o80.1.Op == 22))] (nx ?_)
 refine br ((o80.1.Op == 22)) hF (fun hF hc831 => ?_) (fun hF hc831 => ?_)
 ·refine CW.seq ?_
  refine CW.plan (by kernel_rfl) ?_
  intro w841 hch842
  have hst := hst.same hch842
  refine OA.ldN (i := 0) (cs := (arrC (enc_api_Type) 8 o80.2)) rfl (by kernel_rfl) rfl rfl rfl (by kernel_rfl) (by kernel_rfl) (hst.blkN 3 rfl 0 32) ?_
  refine OA.ldN (i := 1) (cs := [I (o80.2 i157).Kind, U (o80.2 i157).Span.Lo, U (o80.2 i157).Span.Hi, I (o80.2 i157).Map]) rfl (by kernel_rfl) rfl rfl rfl (by kernel_rfl) (by kernel_rfl) (hst.blkN 4 rfl 0 4) ?_
  refine OA.act (i := 2) [0] (by kernel_rfl) rfl rfl (by kernel_rfl) (by kernel_rfl) ?_
  refine OW.row (α := api_Type) (e := 154) (enc := enc_api_Type) (sz := 4) hst rfl rfl rfl [(o80.2 i157)] rfl (fun _ => rfl) rfl rfl (fun _ => by kernel_rfl) ?_
  intro g843 w844 hst
  refine OA.next ⟨(hst.blkN 3 rfl 0 32), trivial⟩ ?_
  refine OA.act (i := 3) [0] (by kernel_rfl) rfl rfl (by kernel_rfl) (by kernel_rfl) ?_
  obtain ⟨r845, hr846, hF⟩ := bs hF
  refine OW.fn rfl rfl rfl rfl (by kernel_rfl) (judge_nums_ok _ (.slice (some ⟨g843, 0, none⟩) 1 1) ([(o80.2 i157)]) r845 hr846 (hst.part [] rfl) (hst.rd 6 rfl (fun _ => rfl) [] rfl (hst.len 6 rfl).1)) ?_
  rintro e w847 ⟨rfl, hst848⟩
  refine ⟨_, rfl, ?_⟩
  have hst := hst.join (idx := []) (rest := [0, 1, 2, 3, 4, 5, 6]) rfl hst848
  refine OA.next ⟨(hst.blkN 3 rfl 0 32), trivial⟩ ?_
  refine OA.act (i := 4) [] (by kernel_rfl) rfl rfl (by kernel_rfl) (by kernel_rfl) ?_
  refine OW.stB hst 1 rfl rfl rfl rfl rfl (by kernel_rfl) rfl rfl (arrC (enc_api_Type) 8 o80.2) rfl ?_
  intro w849 hst
  refine OA.next trivial ?_
  refine OA.act (i := 5) [] (by kernel_rfl) rfl rfl (by kernel_rfl) (by kernel_rfl) ?_
  refine pu 1 [(5, I r845)] (OA.next trivial ?_)
  refine OA.fin (by kernel_rfl) (by kernel_rfl) (QW.next (CW.ret (QW.block_ret (QW.then_ret ?_))))
  obtain rfl := inj hF
  refine QW.ret_ct rfl rfl (run_loadN (cs := (arrC (enc_api_Type) 8 o80.2)) (by kernel_rfl) (by kernel_rfl) (hst.blkN 1 rfl 0 32)) rfl ?_
  exact ⟨S77, rfl, hst.keep [0] rfl⟩
 refine rg ?_
 refine pu 1 [(45, Pt b78)] ?_
 refine OW.ld rfl rfl rfl rfl (by kernel_rfl) (hst.blk 2 rfl rfl) ?_
 refine pu 1 [(47, .pointer (some ⟨b116, 1, none⟩))] ?_
 refine OW.ldN (cs := [U (o80.2 i157).Span.Lo, U (o80.2 i157).Span.Hi]) rfl rfl rfl rfl (by kernel_rfl) (by kernel_rfl) (hst.blkN 4 rfl 1 2) ?_
 refine pu 1 [(49, .pointer (some ⟨b118, 1, none⟩))] ?_
 refine OW.ldN (cs := [U o141.Span.Lo, U o141.Span.Hi]) rfl rfl rfl rfl (by kernel_rfl) (by kernel_rfl) (hst.blkN 5 rfl 1 2) ?_
 obtain ⟨r857, hr858, hF⟩ := bs hF
 refine OW.fn rfl rfl rfl rfl (by kernel_rfl) (span_Do_ok _ o80.1.Op (o80.2 i157).Span o141.Span r857 hr858 (hst.part [] rfl)) ?_
 rintro e w859 ⟨rfl, hst860⟩
 refine ⟨_, rfl, ?_⟩
 have hst := hst.join (idx := []) (rest := [0, 1, 2, 3, 4, 5]) rfl hst860
 refine pu 3 [(52, .agg [U r857.1.Lo, U r857.1.Hi].toArray), (53, .bool r857.2)] ?_
 refine OW.alloc hst rfl rfl rfl [U 0, U 0] (by kernel_rfl) ?_
 intro b861 w862 hst
 refine OW.stB hst 6 rfl rfl rfl rfl rfl (by kernel_rfl) rfl rfl [U r857.1.Lo, U r857.1.Hi] rfl ?_
 intro w863 hst
 refine pu 1 [] (nx (CW.seq ?_))
 refine CW.plan (by kernel_rfl) ?_
 intro w873 hch874
 have hst := hst.same hch874
 refine OA.pure [0] [(54, .pointer (some ⟨b78, 1, none⟩))] (by kernel_rfl) ?_
 refine OA.ld (i := 1) rfl (by kernel_rfl) rfl rfl rfl (by kernel_rfl) (hst.blk 2 rfl rfl) ?_
 refine OA.ldN (i := 2) (cs := [U r857.1.Lo, U r857.1.Hi]) rfl (by kernel_rfl) rfl rfl rfl (by kernel_rfl) (by kernel_rfl) (hst.blkN 6 rfl 0 2) ?_
 refine OA.act (i := 3) [1] (by kernel_rfl) rfl rfl (by kernel_rfl) (by kernel_rfl) ?_
 obtain ⟨r875, hr876, hF⟩ := bs hF
 refine OW.fn rfl rfl rfl rfl (by kernel_rfl) (judge_number_ok _ r857.1 r875 hr876 (hst.part [] rfl)) ?_
 rintro e w877 ⟨rfl, hst878⟩
 refine ⟨_, rfl, ?_⟩
 have hst := hst.join (idx := []) (rest := [0, 1, 2, 3, 4, 5, 6]) rfl hst878
 refine OA.next ⟨(hst.blk 2 rfl rfl), trivial⟩ ?_
 obtain ⟨i879, hi880, hF⟩ := bs hF
 refine OA.val (i := 4) (v := .pointer (some ⟨b79, 0 + Int.toNat o80.1.D * 4, none⟩)) rfl (by kernel_rfl) rfl rfl rfl rfl (fun a w ha => aidx_run (n := 8) 154 4 rfl rfl rfl (ain_some hi880).1 (ain_some hi880).2.1 (by kernel_rfl) (by kernel_rfl) a w ha) ?_
 refine OA.act (i := 5) [] (by kernel_rfl) rfl rfl (by kernel_rfl) (by kernel_rfl) ?_
 refine OW.stA hst 3 rfl rfl rfl rfl rfl (by kernel_rfl) rfl enc_api_Type (fun _ => rfl) 8 o80.2 0 rfl rfl hi880 0 rfl rfl r875 rfl (arrC (enc_api_Type) 8 (aset o80.2 i879 r875)) rfl ?_
 intro w881 hst
 refine OA.next trivial ?_
 refine OA.fin (by kernel_rfl) (by kernel_rfl) (QW.next (CW.seq ?_))
 refine CW.plan (by kernel_rfl) ?_
 intro w891 hch892
 have hst := hst.same hch892
 refine OA.ldN (i := 0) (cs := (arrC (enc_api_Type) 8 (aset o80.2 i879 r875))) rfl (by kernel_rfl) rfl rfl rfl (by kernel_rfl) (by kernel_rfl) (hst.blkN 3 rfl 0 32) ?_
 refine OA.ldN (i := 1) (cs := [I (o80.2 i157).Kind, U (o80.2 i157).Span.Lo, U (o80.2 i157).Span.Hi, I (o80.2 i157).Map]) rfl (by kernel_rfl) rfl rfl rfl (by kernel_rfl) (by kernel_rfl) (hst.blkN 4 rfl 0 4) ?_
 refine OA.ldN (i := 2) (cs := [I o141.Kind, U o141.Span.Lo, U o141.Span.Hi, I o141.Map]) rfl (by kernel_rfl) rfl rfl rfl (by kernel_rfl) (by kernel_rfl) (hst.blkN 5 rfl 0 4) ?_
 refine OA.act (i := 3) [0] (by kernel_rfl) rfl rfl (by kernel_rfl) (by kernel_rfl) ?_
 refine OW.row (α := api_Type) (e := 154) (enc := enc_api_Type) (sz := 4) hst rfl rfl rfl [(o80.2 i157), o141] rfl (fun _ => rfl) rfl rfl (fun _ => by kernel_rfl) ?_
 intro g893 w894 hst
 refine OA.next ⟨(hst.blkN 3 rfl 0 32), trivial⟩ ?_
 refine OA.act (i := 4) [0] (by kernel_rfl) rfl rfl (by kernel_rfl) (by kernel_rfl) ?_
 obtain ⟨r895, hr896, hF⟩ := bs hF
 refine OW.fn rfl rfl rfl rfl (by kernel_rfl) (judge_nums_ok _ (.slice (some ⟨g893, 0, none⟩) 2 2) ([(o80.2 i157), o141]) r895 hr896 (hst.part [] rfl) (hst.rd 7 rfl (fun _ => rfl) [] rfl (hst.len 7 rfl).1)) ?_
 rintro e w897 ⟨rfl, hst898⟩
 refine ⟨_, rfl, ?_⟩
 have hst := hst.join (idx := []) (rest := [0, 1, 2, 3, 4, 5, 6, 7]) rfl hst898
 refine OA.next ⟨(hst.blkN 3 rfl 0 32), trivial⟩ ?_
 refine OA.act (i := 5) [] (by kernel_rfl) rfl rfl (by kernel_rfl) (by kernel_rfl) ?_
 refine OW.stB hst 1 rfl rfl rfl rfl rfl (by kernel_rfl) rfl rfl (arrC (enc_api_Type) 8 (aset o80.2 i879 r875)) rfl ?_
 intro w899 hst
 refine OA.next trivial ?_
 refine OA.act (i := 6) [] (by kernel_rfl) rfl rfl (by kernel_rfl) (by kernel_rfl) ?_
 refine pu 1 [(5, I r895)] (OA.next trivial ?_)
 refine OA.fin (by kernel_rfl) (by kernel_rfl) (QW.next (CW.ret (QW.block_ret (QW.then_ret ?_))))
 obtain rfl := inj hF
 refine QW.ret_ct rfl rfl (run_loadN (cs := (arrC (enc_api_Type) 8 (aset o80.2 i879 r875))) (by kernel_rfl) (by kernel_rfl) (hst.blkN 1 rfl 0 32)) rfl ?_
 exact ⟨S77, rfl, hst.keep [0] rfl⟩
theorem span_Join_ok (w : World) (v0 : Value) (p0 : List api_Span) (r : api_Span × Bool) (hF : span_Join p0 = some r)
    (hst : St w (fp []) w []) (h0 : Rd w (fp []) v0 enc_api_Span 2 p0) :
    Calls Tryz.prog 184 [v0].toArray w (fun e w' => e = .returned (.tuple #[.agg [U r.1.Lo, U r.1.Hi].toArray, .bool r.2]) ∧ St w (fp []) w' []) := by
 refine CW.start (N := 35) Tryz.func184 rfl rfl rfl ?_
 obtain ⟨l1, a2, c3, rfl⟩ := h0.len
 refine rg ?_
 refine OW.alloc hst rfl rfl rfl [U 0, U 0] (by kernel_rfl) ?_
 intro b6 w7 hst
 refine pu 1 [] (nx (rg ?_))
 refine pu 1 [(7, .agg [U 18446744073709551615, U 0].toArray)] ?_
 refine OW.alloc hst rfl rfl rfl [U 0, U 0] (by kernel_rfl) ?_
 intro b11 w12 hst
 refine OW.stB hst 1 rfl rfl rfl rfl rfl (by kernel_rfl) rfl rfl [U 18446744073709551615, U 0] rfl ?_
 intro w13 hst
 refine nx (CW.seq (rg ?_))
 refine pu 3 [(8, .slice a2 (p0).length c3), (9, I ((p0).length : Int)), (10, I 0)] (nx ?_)
 obtain ⟨o116, ho117, hF⟩ := bs hF
 refine CW.cutK (fun a w1 => ∃ (t118 : api_Span), o116 = .inl t118 ∧ Rep 35 [(0, .slice a2 (p0).length c3), (2, Pt b6), (4, Pt b11)] a ∧ St w (fp []) w1 [blkI b6 152 [U 0, U 0], blkI b11 152 [U t118.Lo, U t118.Hi]]) ?_ ?_
 ·refine CW.block ?_
  refine CW.loop (fun n a w1 => ∃ (i187 : Nat) (s186 : api_Span), i187 + n = (p0).length ∧ Rep 35 [(0, .slice a2 (p0).length c3), (2, Pt b6), (4, Pt b11), (8, .slice a2 (p0).length c3), (9, I ((p0).length : Int)), (10, I (i187 : Int))] a ∧ St w (fp []) w1 [blkI b6 152 [U 0, U 0], blkI b11 152 [U s186.Lo, U s186.Hi]] ∧ forN (span_Join_l1 p0) (fun (s186 : api_Span) => (.inl s186)) n i187 s186 = some o116) (p0).length (fun a ha => ⟨0, (api_Span.mk 18446744073709551615 0), Nat.zero_add _, ha.ag, hst.keep [0, 1] rfl, ho117⟩) ?_
  rintro n184 a w1 ⟨i187, s186, hi188, ha, hst, hl185⟩
  refine CW.go ?_ ha
  refine rg ?_
  refine pu 1 [(11, .bool (decide ((i187 : Int) < ((p0).length : Int))))] (nx (CW.seq ?_))
  rcases bft (decide ((i187 : Int) < ((p0).length : Int))) with hc189 | hc189
  ·rcases n184 with _ | n184
   ·exact (cnt0 hi188 hc189).elim
   refine CW.cond_t rfl hc189 (CW.skip (QW.next (CW.seq (CW.block (rg ?_)))))
   obtain ⟨x199, hx200, hl185⟩ := bs hl185
   obtain ⟨g202, o203, c204, hv201⟩ := h0.formv (fun _ => ⟨_, rfl⟩) hx200
   refine OW.idx 152 2 rfl rfl rfl rfl hv201 rfl (idx_some hx200).1 (idx_some hx200).2.1 (by kernel_rfl) (by kernel_rfl) ?_
   refine OW.ldN (cs := enc_api_Span x199) rfl rfl rfl rfl (by kernel_rfl) (by kernel_rfl) (h0.cellv hst hx200 hv201) ?_
   refine OW.alloc hst rfl rfl rfl [U 0, U 0] (by kernel_rfl) ?_
   intro b205 w206 hst
   refine OW.stB hst 2 rfl rfl rfl rfl rfl (by kernel_rfl) rfl rfl [U x199.Lo, U x199.Hi] rfl ?_
   intro w207 hst
   refine nx (CW.seq (rg ?_))
   refine OW.ldN (cs := [U x199.Lo, U x199.Hi]) rfl rfl rfl rfl (by kernel_rfl) (by kernel_rfl) (hst.blkN 2 rfl 0 2) ?_
   obtain ⟨r212, hr213, hl185⟩ := bs hl185
   refine OW.fn rfl rfl rfl rfl (by kernel_rfl) (span_Right_ok _ x199 r212 hr213 (hst.part [] rfl)) ?_
   rintro e w214 ⟨rfl, hst215⟩
   refine ⟨_, rfl, ?_⟩
   have hst := hst.join (idx := []) (rest := [0, 1, 2]) rfl hst215
   refine pu 1 [(16, .bool (!r212))] (nx ?_)
   refine br ((!r212)) hl185 (fun hl185 hc216 => ?_) (fun hl185 hc216 => ?_)
   ·refine rg ?_
    refine pu 1 [(17, .agg [U 0, U 0].toArray)] ?_
    refine OW.stB hst 0 rfl rfl rfl rfl rfl (by kernel_rfl) rfl rfl [U 0, U 0] rfl ?_
    intro w218 hst
    refine pu 1 [(3, .bool false)] (nx (CW.ret (QW.then_ret (QW.block_ret (QW.then_ret (QW.then_ret (QW.block_ret (QW.then_ret ?_))))))))
    obtain rfl := inj hl185
    obtain rfl := inj hF
    refine QW.ret_ct rfl rfl (run_loadN (cs := [U 0, U 0]) (by kernel_rfl) (by kernel_rfl) (hst.blkN 0 rfl 0 2)) rfl ?_
    exact ⟨rfl, hst.keep [] rfl⟩
   refine CW.skip (QW.next (CW.region ?_))
   refine pu 1 [(18, Pt b11)] ?_
   refine OW.ld rfl rfl rfl rfl (by kernel_rfl) (hst.blk 1 rfl rfl) ?_
   refine pu 1 [(20, Pt b205)] ?_
   refine OW.ld rfl rfl rfl rfl (by kernel_rfl) (hst.blk 2 rfl rfl) ?_
   refine pu 2 [(22, U (imin s186.Lo x199.Lo)), (23, .pointer (some ⟨b11, 1, none⟩))] ?_
   refine OW.ld rfl rfl rfl rfl (by kernel_rfl) (hst.blk 1 rfl rfl) ?_
   refine pu 1 [(25, .pointer (some ⟨b205, 1, none⟩))] ?_
   refine OW.ld rfl rfl rfl rfl (by kernel_rfl) (hst.blk 2 rfl rfl) ?_
   refine pu 2 [(28, .agg [U (imin s186.Lo x199.Lo), U (imax s186.Hi x199.Hi)].toArray)] ?_
   refine OW.stB hst 1 rfl rfl rfl rfl rfl (by kernel_rfl) rfl rfl [U (imin s186.Lo x199.Lo), U (imax s186.Hi x199.Hi)] rfl ?_
   intro w220 hst
   refine OW.nil rfl (QW.block_normal (QW.next (CW.region ?_)))
   refine pu 2 [(10, I (w64 ((i187 : Int) + 1)))] (OW.nil rfl ?_)
   refine QW.say 10 rfl (congrArg (Value.int .i64) (w64_cnt hc189 l1)) ?_
   exact QW.meet (fun a ha => ⟨n184, Nat.lt_succ_self _, i187 + 1, (api_Span.mk (imin s186.Lo x199.Lo) (imax s186.Hi x199.Hi)), cnt_next hi188, ha.ag, hst.keep [0, 1] rfl, hl185⟩)
  rcases n184 with _ | n184
  ·refine CW.cond_f rfl hc189 ?_
   refine CW.exit (QW.then_exit (QW.then_exit ?_))
   refine QW.block_here ?_
   obtain rfl := inj hl185
   exact QW.meet (fun a ha => ⟨s186, rfl, ha.ag, hst.keep [0, 1] rfl⟩)
  exact (cnt1 hi188 hc189).elim
 rintro a w1 ⟨t118, rfl, ha, hst⟩
 refine CW.go ?_ ha
 refine CW.seq (rg ?_)
 refine pu 3 [(32, .bool (((p0).length : Int) == 0))] (nx ?_)
 refine br ((((p0).length : Int) == 0)) hF (fun hF hc221 => ?_) (fun hF hc221 => ?_)
 ·refine rg ?_
  refine pu 1 [(33, .agg [U 0, U 0].toArray)] ?_
  refine OW.stB hst 0 rfl rfl rfl rfl rfl (by kernel_rfl) rfl rfl [U 0, U 0] rfl ?_
  intro w223 hst
  refine pu 1 [(3, .bool false)] (nx (CW.ret (QW.then_ret ?_)))
  obtain rfl := inj hF
  refine QW.ret_ct rfl rfl (run_loadN (cs := [U 0, U 0]) (by kernel_rfl) (by kernel_rfl) (hst.blkN 0 rfl 0 2)) rfl ?_
  exact ⟨rfl, hst.keep [] rfl⟩
 refine CW.skip (QW.next (rg ?_))
 refine OW.ldN (cs := [U t118.Lo, U t118.Hi]) rfl rfl rfl rfl (by kernel_rfl) (by kernel_rfl) (hst.blkN 1 rfl 0 2) ?_
 refine OW.stB hst 0 rfl rfl rfl rfl rfl (by kernel_rfl) rfl rfl [U t118.Lo, U t118.Hi] rfl ?_
 intro w225 hst
 refine pu 1 [(3, .bool true)] (nx (CW.ret ?_))
 obtain rfl := inj hF
 refine QW.ret_ct rfl rfl (run_loadN (cs := [U t118.Lo, U t118.Hi]) (by kernel_rfl) (by kernel_rfl) (hst.blkN 0 rfl 0 2)) rfl ?_
 exact ⟨rfl, hst.keep [] rfl⟩
theorem judge_joined_ok (w : World) (p0 : api_Type) (p1 : api_Type) (r : api_Type) (hF : judge_joined p0 p1 = some r)
    (hst : St w (fp []) w []) :
    Calls Tryz.prog 155 [.agg [I p0.Kind, U p0.Span.Lo, U p0.Span.Hi, I p0.Map].toArray, .agg [I p1.Kind, U p1.Span.Lo, U p1.Span.Hi, I p1.Map].toArray].toArray w (fun e w' => e = .returned (.agg [I r.Kind, U r.Span.Lo, U r.Span.Hi, I r.Map].toArray) ∧ St w (fp []) w' []) := by
 refine CW.start (N := 37) Tryz.func155 rfl rfl rfl (rg ?_)
 refine OW.box hst rfl rfl rfl rfl [I p0.Kind, U p0.Span.Lo, U p0.Span.Hi, I p0.Map] rfl ?_
 intro b7 w8 hst
 refine OW.box hst rfl rfl rfl rfl [I p1.Kind, U p1.Span.Lo, U p1.Span.Hi, I p1.Map] rfl ?_
 intro b9 w10 hst
 refine OW.alloc hst rfl rfl rfl [I 0, U 0, U 0, I 0] (by kernel_rfl) ?_
 intro b11 w12 hst
 refine nx (CW.seq (CW.block (CW.seq ?_)))
 refine CW.cutK (fun a w1 => Rep 37 [(2, Pt b7), (3, Pt b9), (4, Pt b11), (7, .bool ((p0.Kind != p1.Kind) || (p0.Map != p1.Map)))] a ∧ St w (fp []) w1 [blkI b7 154 [I p0.Kind, U p0.Span.Lo, U p0.Span.Hi, I p0.Map], blkI b9 154 [I p1.Kind, U p1.Span.Lo, U p1.Span.Hi, I p1.Map], blkI b11 154 [I 0, U 0, U 0, I 0]]) ?_ ?_
 ·refine CW.region ?_
  refine pu 1 [(8, Pt b7)] ?_
  refine OW.ld rfl rfl rfl rfl (by kernel_rfl) (hst.blk 0 rfl rfl) ?_
  refine pu 1 [(10, Pt b9)] ?_
  refine OW.ld rfl rfl rfl rfl (by kernel_rfl) (hst.blk 1 rfl rfl) ?_
  refine pu 2 [(13, .bool (p0.Kind != p1.Kind))] ?_
  refine OW.split 13 rfl (fun hc13 => ?_) (fun hc13 => ?_)
  ·refine pu 7 [(7, .bool true)] (OW.nil rfl ?_)
   refine QW.say 7 (v := .bool ((p0.Kind != p1.Kind) || (p0.Map != p1.Map))) rfl (by first | (rw [hc13]; done) | (rw [hc13]; rfl) | simp [hc13]) ?_
   exact QW.meet (fun a ha => ⟨ha.ag, hst.keep [0, 1, 2] rfl⟩)
  refine pu 1 [(14, .pointer (some ⟨b7, 3, none⟩))] ?_
  refine OW.ld rfl rfl rfl rfl (by kernel_rfl) (hst.blk 0 rfl rfl) ?_
  refine pu 1 [(16, .pointer (some ⟨b9, 3, none⟩))] ?_
  refine OW.ld rfl rfl rfl rfl (by kernel_rfl) (hst.blk 1 rfl rfl) ?_
  refine pu 3 [(7, .bool (p0.Map != p1.Map))] (OW.nil rfl ?_)
  refine QW.say 7 (v := .bool ((p0.Kind != p1.Kind) || (p0.Map != p1.Map))) rfl (by first | (rw [hc13]; done) | (rw [hc13]; rfl) | simp [hc13]) ?_
  exact QW.meet (fun a ha => ⟨ha.ag, hst.keep [0, 1, 2] rfl⟩)
 rintro a w1 ⟨ha, hst⟩
 refine CW.go ?_ ha
 refine br (((p0.Kind != p1.Kind) || (p0.Map != p1.Map))) hF (fun hF hc14 => ?_) (fun hF hc14 => ?_)
 ·refine rg ?_
  refine pu 1 [(20, .agg [I 0, U 0, U 0, I 0].toArray)] ?_
  refine OW.stB hst 2 rfl rfl rfl rfl rfl (by kernel_rfl) rfl rfl [I 0, U 0, U 0, I 0] rfl ?_
  intro w16 hst
  refine nx (CW.ret (QW.block_ret (QW.then_ret ?_)))
  obtain rfl := inj hF
  refine QW.ret_c rfl rfl (run_loadN (cs := [I 0, U 0, U 0, I 0]) (by kernel_rfl) (by kernel_rfl) (hst.blkN 2 rfl 0 4)) ?_
  exact ⟨rfl, hst.keep [] rfl⟩
 refine rg ?_
 refine pu 1 [(22, Pt b7)] ?_
 refine OW.ld rfl rfl rfl rfl (by kernel_rfl) (hst.blk 0 rfl rfl) ?_
 refine pu 2 [(21, .bool (p0.Kind == 1))] (nx ?_)
 refine br ((p0.Kind == 1)) hF (fun hF hc17 => ?_) (fun hF hc17 => ?_)
 ·refine rg ?_
  refine pu 1 [(26, .pointer (some ⟨b7, 1, none⟩))] ?_
  refine OW.ldN (cs := [U p0.Span.Lo, U p0.Span.Hi]) rfl rfl rfl rfl (by kernel_rfl) (by kernel_rfl) (hst.blkN 0 rfl 1 2) ?_
  refine pu 1 [(28, .pointer (some ⟨b9, 1, none⟩))] ?_
  refine OW.ldN (cs := [U p1.Span.Lo, U p1.Span.Hi]) rfl rfl rfl rfl (by kernel_rfl) (by kernel_rfl) (hst.blkN 1 rfl 1 2) ?_
  refine OW.row (α := api_Span) (e := 152) (enc := enc_api_Span) (sz := 2) hst rfl rfl rfl [p0.Span, p1.Span] rfl (fun _ => rfl) rfl rfl (fun _ => by kernel_rfl) ?_
  intro g27 w28 hst
  obtain ⟨r29, hr30, hF⟩ := bs hF
  refine OW.fn rfl rfl rfl rfl (by kernel_rfl) (span_Join_ok _ (.slice (some ⟨g27, 0, none⟩) 2 2) ([p0.Span, p1.Span]) r29 hr30 (hst.part [] rfl) (hst.rd 3 rfl (fun _ => rfl) [] rfl (hst.len 3 rfl).1)) ?_
  rintro e w31 ⟨rfl, hst32⟩
  refine ⟨_, rfl, ?_⟩
  have hst := hst.join (idx := []) (rest := [0, 1, 2, 3]) rfl hst32
  refine pu 3 [(32, .agg [U r29.1.Lo, U r29.1.Hi].toArray), (33, .bool r29.2)] ?_
  refine OW.alloc hst rfl rfl rfl [U 0, U 0] (by kernel_rfl) ?_
  intro b33 w34 hst
  refine OW.stB hst 4 rfl rfl rfl rfl rfl (by kernel_rfl) rfl rfl [U r29.1.Lo, U r29.1.Hi] rfl ?_
  intro w35 hst
  refine pu 1 [] (nx (rg ?_))
  refine OW.ldN (cs := [U r29.1.Lo, U r29.1.Hi]) rfl rfl rfl rfl (by kernel_rfl) (by kernel_rfl) (hst.blkN 4 rfl 0 2) ?_
  obtain ⟨r41, hr42, hF⟩ := bs hF
  refine OW.fn rfl rfl rfl rfl (by kernel_rfl) (judge_number_ok _ r29.1 r41 hr42 (hst.part [] rfl)) ?_
  rintro e w43 ⟨rfl, hst44⟩
  refine ⟨_, rfl, ?_⟩
  have hst := hst.join (idx := []) (rest := [0, 1, 2, 3, 4]) rfl hst44
  refine OW.stB hst 2 rfl rfl rfl rfl rfl (by kernel_rfl) rfl rfl [I r41.Kind, U r41.Span.Lo, U r41.Span.Hi, I r41.Map] rfl ?_
  intro w45 hst
  refine nx (CW.ret (QW.block_ret (QW.then_ret ?_)))
  obtain rfl := inj hF
  refine QW.ret_c rfl rfl (run_loadN (cs := [I r41.Kind, U r41.Span.Lo, U r41.Span.Hi, I r41.Map]) (by kernel_rfl) (by kernel_rfl) (hst.blkN 2 rfl 0 4)) ?_
  exact ⟨rfl, hst.keep [] rfl⟩
 refine CW.skip (QW.block_normal (QW.next (rg ?_)))
 refine OW.ldN (cs := [I p0.Kind, U p0.Span.Lo, U p0.Span.Hi, I p0.Map]) rfl rfl rfl rfl (by kernel_rfl) (by kernel_rfl) (hst.blkN 0 rfl 0 4) ?_
 refine OW.stB hst 2 rfl rfl rfl rfl rfl (by kernel_rfl) rfl rfl [I p0.Kind, U p0.Span.Lo, U p0.Span.Hi, I p0.Map] rfl ?_
 intro w47 hst
 refine nx (CW.ret ?_)
 obtain rfl := inj hF
 refine QW.ret_c rfl rfl (run_loadN (cs := [I p0.Kind, U p0.Span.Lo, U p0.Span.Hi, I p0.Map]) (by kernel_rfl) (by kernel_rfl) (hst.blkN 2 rfl 0 4)) ?_
 exact ⟨rfl, hst.keep [] rfl⟩
theorem judge_judge_come_ok (w : World) (wb : World) (Sb : List Nat) (v0 : Value) (S0 : List Nat) (p0 : judge_judge) (p1 : Int) (p2 : Nat → api_Type) (r : judge_judge) (hF : judge_judge_come p0 p1 p2 = some r)
    (hst : St w (fp [itI (R_t92 wb Sb) [v0] S0 p0]) w [itI (R_t92 wb Sb) [v0] S0 p0]) (hb : Bor wb Sb w (fp [itI (R_t92 wb Sb) [v0] S0 p0])) :
    Calls Tryz.prog 114 [v0, I p1, .agg (arrC (enc_api_Type) 8 p2).toArray].toArray w (fun e w' => ∃ (s0 : List Nat), e = .returned (.tuple #[]) ∧ St w (fp [itI (R_t92 wb Sb) [v0] S0 p0]) w' [itI (R_t92 wb Sb) [v0] s0 r]) := by
 refine CW.start (N := 53) Tryz.func114 rfl rfl rfl ?_
 obtain ⟨b1, rfl⟩ := hst.fptr 0 rfl
 refine rg ?_
 refine OW.box hst rfl rfl rfl rfl (arrC (enc_api_Type) 8 p2) rfl ?_
 intro b4 w5 hst
 refine nx (CW.seq (CW.seq ?_))
 obtain ⟨v6, S7, v8, S9, v10, S11, v12, S13, v14, S15, hst⟩ := hst.openQ5 0 rfl rfl rfl rfl rfl rfl
 have hbo16 := hst.borOut 2 rfl
 have hbr17 := hbo16.bor hb
 have hbo18 := hst.borOut 3 rfl
 have hbr19 := hbo18.bor hb
 have hst := hst.toRow1 4 rfl
 have hst := hst.toRow1 5 rfl
 have hst := hst.toRow1 6 rfl
 have hst := hst.keep [0, 1, 4, 5, 6] rfl
 obtain ⟨l20, a21, c22, rfl⟩ := hbr17.len
 obtain ⟨l23, a24, c25, rfl⟩ := hbr19.len
 obtain ⟨l26, a27, c28, rfl⟩ := hst.len 2 rfl
 obtain ⟨l29, a30, c31, rfl⟩ := hst.len 3 rfl
 obtain ⟨l32, a33, c34, rfl⟩ := hst.len 4 rfl
 have hst : St _ _ _ [blkI b1 146 [.slice a21 (p0.Module.Maps).length c22, .slice a24 (p0.Module.Code).length c25, .slice a27 (p0.came).length c28, .slice a30 (p0.any).length c31, .slice a33 (p0.loops).length c34], _, _, _, _] := hst
 refine CW.region ?_
 refine pu 3 [(9, .pointer (some ⟨b1, 3, none⟩))] ?_
 refine OW.ld rfl rfl rfl rfl (by kernel_rfl) (hst.blk 0 rfl rfl) ?_
 refine pu 1 [(11, I p1)] ?_
 obtain ⟨x41, hx42, hF⟩ := bs hF
 obtain ⟨g44, o45, c46, hv43⟩ := hst.rowv 3 rfl hx42
 refine OW.idx 4 1 rfl rfl rfl rfl hv43 rfl (idx_some hx42).1 (idx_some hx42).2.1 (by kernel_rfl) (by kernel_rfl) ?_
 refine OW.ld rfl rfl rfl rfl (by kernel_rfl) (hst.rowc 3 rfl (fun _ => rfl) hx42 hv43 0 _ rfl) ?_
 refine pu 1 [(14, .bool (!x41))] (nx ?_)
 refine br ((!x41)) hF (fun hF hc47 => ?_) (fun hF hc47 => ?_)
 ·refine CW.seq ?_
  refine CW.plan (by kernel_rfl) ?_
  intro w62 hch63
  have hst := hst.same hch63
  refine OA.pure [0, 1, 2] [(17, .pointer (some ⟨b1, 3, none⟩))] (by kernel_rfl) ?_
  refine OA.ld (i := 3) rfl (by kernel_rfl) rfl rfl rfl (by kernel_rfl) (hst.blk 0 rfl rfl) ?_
  refine OA.pure [4, 5, 6, 7] [(19, I p1), (22, .pointer (some ⟨b1, 2, none⟩))] (by kernel_rfl) ?_
  refine OA.ld (i := 8) rfl (by kernel_rfl) rfl rfl rfl (by kernel_rfl) (hst.blk 0 rfl rfl) ?_
  refine OA.pure [9] [(24, I p1)] (by kernel_rfl) ?_
  refine OA.ldN (i := 10) (cs := (arrC (enc_api_Type) 8 p2)) rfl (by kernel_rfl) rfl rfl rfl (by kernel_rfl) (by kernel_rfl) (hst.blkN 1 rfl 0 32) ?_
  obtain ⟨g65, o66, c67, hv64⟩ := hst.rowv 3 rfl hx42
  refine OA.idx (i := 11) 4 1 rfl (by kernel_rfl) rfl rfl rfl hv64 rfl (idx_some hx42).1 (idx_some hx42).2.1 (by kernel_rfl) (by kernel_rfl) ?_
  refine OA.act (i := 12) [10] (by kernel_rfl) rfl rfl (by kernel_rfl) (by kernel_rfl) ?_
  refine OW.stR hst 3 rfl hv64 (fun _ => rfl) rfl rfl hx42 0 rfl rfl rfl (by kernel_rfl) rfl rfl true rfl ?_
  intro w68 hst
  refine OA.next ⟨(hst.blkN 1 rfl 0 32), trivial⟩ ?_
  obtain ⟨x69, hx70, hF⟩ := bs hF
  obtain ⟨g72, o73, c74, hv71⟩ := hst.rowv 2 rfl hx70
  refine OA.idx (i := 13) 156 32 rfl (by kernel_rfl) rfl rfl rfl hv71 rfl (idx_some hx70).1 (idx_some hx70).2.1 (by kernel_rfl) (by kernel_rfl) ?_
  refine OA.act (i := 14) [] (by kernel_rfl) rfl rfl (by kernel_rfl) (by kernel_rfl) ?_
  refine OW.stR hst 2 rfl hv71 (fun _ => rfl) rfl rfl hx70 0 rfl rfl rfl (by kernel_rfl) rfl rfl p2 rfl ?_
  intro w75 hst
  refine OA.next trivial ?_
  refine OA.fin (by kernel_rfl) (by kernel_rfl) (QW.next (CW.ret (QW.then_ret ?_)))
  have hst := hst.borIn hbo16
  have hst := hst.borIn hbo18
  have hst := hst.toIt 2 rfl (fun _ => rfl) (by decide)
  have hst := hst.toIt 3 rfl (fun _ => rfl) (by decide)
  have hst := hst.toIt 4 rfl (fun _ => rfl) (by decide)
  obtain ⟨S76, hst⟩ := hst.shutP5 (R_t146 wb Sb) rfl 0 5 6 2 3 4 [1] rfl rfl rfl rfl rfl rfl rfl (judge_judge.mk p0.Module (p0.came.set (Int.toNat p1) p2) (p0.any.set (Int.toNat p1) true) p0.loops) rfl rfl
  obtain rfl := inj hF
  refine QW.ret0 rfl ?_
  exact ⟨S76, rfl, hst.keep [1] rfl⟩
 refine CW.skip (QW.next (rg ?_))
 refine pu 1 [(28, I 0)] (nx ?_)
 obtain ⟨o290, ho291, hF⟩ := bs hF
 refine CW.cutQ (fun a w1 => ∃ (S289 : List Nat), Rep 53 [] a ∧ St w (fp [itI (R_t92 wb Sb) [Pt b1] S0 p0]) w1 [itI (R_t92 wb Sb) [Pt b1] S289 o290]) ?_ ?_
 ·refine CW.block ?_
  have hst := hst.borIn hbo16
  have hst := hst.borIn hbo18
  have hst := hst.toIt 2 rfl (fun _ => rfl) (by decide)
  have hst := hst.toIt 3 rfl (fun _ => rfl) (by decide)
  have hst := hst.toIt 4 rfl (fun _ => rfl) (by decide)
  obtain ⟨S292, hst⟩ := hst.shutP5 (R_t146 wb Sb) rfl 0 5 6 2 3 4 [1] rfl rfl rfl rfl rfl rfl rfl p0 rfl rfl
  refine CW.loop (fun n a w1 => ∃ (i433 : Nat) (s431 : judge_judge) (S432 : List Nat), i433 + n = 8 ∧ Rep 53 [(0, Pt b1), (1, I p1), (5, Pt b4), (28, I (i433 : Int))] a ∧ St w (fp [itI (R_t92 wb Sb) [Pt b1] S0 p0]) w1 [itI (R_t92 wb Sb) [Pt b1] S432 s431, blkI b4 156 (arrC (enc_api_Type) 8 p2)] ∧ forN (judge_judge_come_l1 p1 p2) (fun (s431 : judge_judge) => s431) n i433 s431 = some o290) 8 (fun a ha => ⟨0, p0, S292, Nat.zero_add _, ha.ag, hst.keep [1, 0] rfl, ho291⟩) ?_
  rintro n429 a w1 ⟨i433, s431, S432, hi434, ha, hst, hl430⟩
  refine CW.go ?_ ha
  refine rg ?_
  refine pu 1 [(29, .bool (decide ((i433 : Int) < 8)))] (nx (CW.seq ?_))
  rcases bft (decide ((i433 : Int) < 8)) with hc435 | hc435
  ·rcases n429 with _ | n429
   ·exact (cnt0 hi434 hc435).elim
   refine CW.cond_t rfl hc435 (CW.skip (QW.next (CW.seq (CW.block (rg ?_)))))
   refine pu 2 [(6, I (i433 : Int))] (nx ?_)
   obtain ⟨v436, S437, v438, S439, v440, S441, v442, S443, v444, S445, hst⟩ := hst.openQ5 0 rfl rfl rfl rfl rfl rfl
   have hbo446 := hst.borOut 2 rfl
   have hbr447 := hbo446.bor hb
   have hbo448 := hst.borOut 3 rfl
   have hbr449 := hbo448.bor hb
   have hst := hst.toRow1 4 rfl
   have hst := hst.toRow1 5 rfl
   have hst := hst.toRow1 6 rfl
   have hst := hst.keep [0, 1, 4, 5, 6] rfl
   obtain ⟨l450, a451, c452, rfl⟩ := hbr447.len
   obtain ⟨l453, a454, c455, rfl⟩ := hbr449.len
   obtain ⟨l456, a457, c458, rfl⟩ := hst.len 2 rfl
   obtain ⟨l459, a460, c461, rfl⟩ := hst.len 3 rfl
   obtain ⟨l462, a463, c464, rfl⟩ := hst.len 4 rfl
   have hst : St _ _ _ [blkI b1 146 [.slice a451 (s431.Module.Maps).length c452, .slice a454 (s431.Module.Code).length c455, .slice a457 (s431.came).length c458, .slice a460 (s431.any).length c461, .slice a463 (s431.loops).length c464], _, _, _, _] := hst
   refine CW.plan (by kernel_rfl) ?_
   intro w484 hch485
   have hst := hst.same hch485
   refine OA.pure [0, 1, 2] [(33, .pointer (some ⟨b1, 2, none⟩))] (by kernel_rfl) ?_
   refine OA.ld (i := 3) rfl (by kernel_rfl) rfl rfl rfl (by kernel_rfl) (hst.blk 0 rfl rfl) ?_
   refine OA.pure [4, 5, 6, 7, 8] [(35, I p1), (36, I (i433 : Int)), (39, .pointer (some ⟨b1, 2, none⟩))] (by kernel_rfl) ?_
   refine OA.ld (i := 9) rfl (by kernel_rfl) rfl rfl rfl (by kernel_rfl) (hst.blk 0 rfl rfl) ?_
   refine OA.pure [10, 11] [(41, I p1), (42, I (i433 : Int))] (by kernel_rfl) ?_
   obtain ⟨x486, hx487, hl430⟩ := bs hl430
   obtain ⟨g489, o490, c491, hv488⟩ := hst.rowv 2 rfl hx487
   refine OA.idx (i := 12) 156 32 rfl (by kernel_rfl) rfl rfl rfl hv488 rfl (idx_some hx487).1 (idx_some hx487).2.1 (by kernel_rfl) (by kernel_rfl) ?_
   obtain ⟨i492, hi493, hl430⟩ := bs hl430
   refine OA.val (i := 13) (v := .pointer (some ⟨g489, o490 + Int.toNat p1 * 32 + 0 + Int.toNat (i433 : Int) * 4, none⟩)) rfl (by kernel_rfl) rfl rfl rfl rfl (fun a w ha => aidx_run (n := 8) 154 4 rfl rfl rfl (ain_some hi493).1 (ain_some hi493).2.1 (by kernel_rfl) (by kernel_rfl) a w ha) ?_
   refine OA.ldN (i := 14) (cs := enc_api_Type (x486 i492)) rfl (by kernel_rfl) rfl rfl rfl (by kernel_rfl) (by kernel_rfl) (cell_arr (hst.rowc 2 rfl (fun _ => rfl) hx487 hv488) enc_api_Type (fun _ => rfl) 8 x486 0 rfl rfl hi493) ?_
   refine OA.pure [15] [(46, I (i433 : Int))] (by kernel_rfl) ?_
   refine OA.val (i := 16) (v := .pointer (some ⟨b4, 0 + Int.toNat (i433 : Int) * 4, none⟩)) rfl (by kernel_rfl) rfl rfl rfl rfl (fun a w ha => aidx_run (n := 8) 154 4 rfl rfl rfl (ain_some hi493).1 (ain_some hi493).2.1 (by kernel_rfl) (by kernel_rfl) a w ha) ?_
   refine OA.ldN (i := 17) (cs := enc_api_Type (p2 i492)) rfl (by kernel_rfl) rfl rfl rfl (by kernel_rfl) (by kernel_rfl) (hst.arrB 1 rfl enc_api_Type (fun _ => rfl) 8 p2 0 rfl rfl hi493) ?_
   obtain ⟨g495, o496, c497, hv494⟩ := hst.rowv 2 rfl hx487
   refine OA.idx (i := 19) 156 32 rfl (by kernel_rfl) rfl rfl rfl hv494 rfl (idx_some hx487).1 (idx_some hx487).2.1 (by kernel_rfl) (by kernel_rfl) ?_
   refine OA.act (i := 18) [3] (by kernel_rfl) rfl rfl (by kernel_rfl) (by kernel_rfl) ?_
   obtain ⟨r498, hr499, hl430⟩ := bs hl430
   refine OW.fn rfl rfl rfl rfl (by kernel_rfl) (judge_joined_ok _ (x486 i492) (p2 i492) r498 hr499 (hst.part [] rfl)) ?_
   rintro e w500 ⟨rfl, hst501⟩
   refine ⟨_, rfl, ?_⟩
   have hst := hst.join (idx := []) (rest := [0, 1, 2, 3, 4]) rfl hst501
   refine OA.next ⟨(hst.blk 0 rfl rfl), trivial⟩ ?_
   refine OA.val (i := 20) (v := .pointer (some ⟨g495, o496 + Int.toNat p1 * 32 + 0 + Int.toNat (i433 : Int) * 4, none⟩)) rfl (by kernel_rfl) rfl rfl rfl rfl (fun a w ha => aidx_run (n := 8) 154 4 rfl rfl rfl (ain_some hi493).1 (ain_some hi493).2.1 (by kernel_rfl) (by kernel_rfl) a w ha) ?_
   refine OA.act (i := 21) [] (by kernel_rfl) rfl rfl (by kernel_rfl) (by kernel_rfl) ?_
   refine OW.stRA hst 2 rfl hv494 (fun _ => rfl) rfl rfl hx487 rfl rfl (by kernel_rfl) rfl enc_api_Type (fun _ => rfl) 8 x486 0 rfl rfl hi493 0 rfl rfl r498 rfl (aset x486 i492 r498) rfl ?_
   intro w502 hst
   refine OA.next trivial ?_
   refine OA.fin (by kernel_rfl) (by kernel_rfl) (QW.block_normal (QW.next (CW.region ?_)))
   refine pu 2 [(28, I (w64 ((i433 : Int) + 1)))] (OW.nil rfl ?_)
   have hst := hst.borIn hbo446
   have hst := hst.borIn hbo448
   have hst := hst.toIt 2 rfl (fun _ => rfl) (by decide)
   have hst := hst.toIt 3 rfl (fun _ => rfl) (by decide)
   have hst := hst.toIt 4 rfl (fun _ => rfl) (by decide)
   obtain ⟨S503, hst⟩ := hst.shutP5 (R_t146 wb Sb) rfl 0 5 6 2 3 4 [1] rfl rfl rfl rfl rfl rfl rfl (judge_judge.mk s431.Module (s431.came.set (Int.toNat p1) (aset x486 i492 r498)) s431.any s431.loops) rfl rfl
   refine QW.say 28 rfl (congrArg (Value.int .i64) (w64_cnt hc435 (by decide))) ?_
   exact QW.meet (fun a ha => ⟨n429, Nat.lt_succ_self _, i433 + 1, (judge_judge.mk s431.Module (s431.came.set (Int.toNat p1) (aset x486 i492 r498)) s431.any s431.loops), S503, cnt_next hi434, ha.ag, hst.keep [1, 0] rfl, hl430⟩)
  rcases n429 with _ | n429
  ·refine CW.cond_f rfl hc435 ?_
   refine CW.exit (QW.then_exit (QW.then_exit ?_))
   refine QW.block_here ?_
   obtain rfl := inj hl430
   exact QW.meet (fun a ha => ⟨S432, ha.ag, hst.keep [0] rfl⟩)
  exact (cnt1 hi434 hc435).elim
 rintro a w1 ⟨S289, ha, hst⟩
 refine QW.go ?_ ha
 obtain rfl := inj hF
 refine QW.end0 rfl ?_
 exact ⟨S289, rfl, hst.keep [0] rfl⟩
theorem arith_Holds_ok (w : World) (p0 : Int) (p1 : Int) (p2 : Int) (r : Bool × Bool) (hF : arith_Holds p0 p1 p2 = some r)
    (hst : St w (fp []) w []) :
    Calls Tryz.prog 156 [I p0, U p1, U p2].toArray w (fun e w' => e = .returned (.tuple #[.bool r.1, .bool r.2]) ∧ St w (fp []) w' []) := by
 refine CW.start (N := 29) Tryz.func156 rfl rfl rfl (rg ?_)
 refine pu 2 [] (nx (CW.seq (rg ?_)))
 refine pu 1 [(8, I p0)] (nx (CW.block (rg ?_)))
 refine pu 2 [(9, .bool (p0 == 16))] (nx ?_)
 refine br ((p0 == 16)) hF (fun hF hc1 => ?_) (fun hF hc1 => ?_)
 ·refine rg ?_
  refine pu 5 [(6, .bool (p1 == p2)), (7, .bool true)] (nx (CW.ret (QW.block_ret (QW.then_ret ?_))))
  obtain rfl := inj hF
  refine QW.ret2 rfl rfl rfl ?_
  exact ⟨rfl, hst.keep [] rfl⟩
 refine rg ?_
 refine pu 2 [(14, .bool (p0 == 17))] (nx ?_)
 refine br ((p0 == 17)) hF (fun hF hc2 => ?_) (fun hF hc2 => ?_)
 ·refine rg ?_
  refine pu 5 [(6, .bool (p1 != p2)), (7, .bool true)] (nx (CW.ret (QW.block_ret (QW.then_ret ?_))))
  obtain rfl := inj hF
  refine QW.ret2 rfl rfl rfl ?_
  exact ⟨rfl, hst.keep [] rfl⟩
 refine rg ?_
 refine pu 2 [(19, .bool (p0 == 18))] (nx ?_)
 refine br ((p0 == 18)) hF (fun hF hc3 => ?_) (fun hF hc3 => ?_)
 ·refine rg ?_
  refine pu 5 [(6, .bool (decide (p1 < p2))), (7, .bool true)] (nx (CW.ret (QW.block_ret (QW.then_ret ?_))))
  obtain rfl := inj hF
  refine QW.ret2 rfl rfl rfl ?_
  exact ⟨rfl, hst.keep [] rfl⟩
 refine rg ?_
 refine pu 2 [(24, .bool (p0 == 19))] (nx ?_)
 refine br ((p0 == 19)) hF (fun hF hc4 => ?_) (fun hF hc4 => ?_)
 ·refine rg ?_
  refine pu 5 [(6, .bool (decide (p1 ≥ p2))), (7, .bool true)] (nx (CW.ret (QW.block_ret (QW.then_ret ?_))))
  obtain rfl := inj hF
  refine QW.ret2 rfl rfl rfl ?_
  exact ⟨rfl, hst.keep [] rfl⟩
 refine CW.skip (QW.block_normal (QW.next (rg ?_)))
 refine pu 2 [(6, .bool false), (7, .bool false)] (nx (CW.ret ?_))
 obtain rfl := inj hF
 refine QW.ret2 rfl rfl rfl ?_
 exact ⟨rfl, hst.keep [] rfl⟩
theorem span_Meet_ok (w : World) (v0 : Value) (p0 : List api_Span) (r : api_Span × Bool) (hF : span_Meet p0 = some r)
    (hst : St w (fp []) w []) (h0 : Rd w (fp []) v0 enc_api_Span 2 p0) :
    Calls Tryz.prog 157 [v0].toArray w (fun e w' => e = .returned (.tuple #[.agg [U r.1.Lo, U r.1.Hi].toArray, .bool r.2]) ∧ St w (fp []) w' []) := by
 refine CW.start (N := 40) Tryz.func157 rfl rfl rfl ?_
 obtain ⟨l1, a2, c3, rfl⟩ := h0.len
 refine rg ?_
 refine OW.alloc hst rfl rfl rfl [U 0, U 0] (by kernel_rfl) ?_
 intro b6 w7 hst
 refine pu 1 [] (nx (rg ?_))
 obtain ⟨r15, hr16, hF⟩ := bs hF
 refine OW.fn rfl rfl rfl rfl (by kernel_rfl) (span_Full_ok _ r15 hr16 (hst.part [] rfl)) ?_
 rintro e w17 ⟨rfl, hst18⟩
 refine ⟨_, rfl, ?_⟩
 have hst := hst.join (idx := []) (rest := [0]) rfl hst18
 refine OW.alloc hst rfl rfl rfl [U 0, U 0] (by kernel_rfl) ?_
 intro b19 w20 hst
 refine OW.stB hst 1 rfl rfl rfl rfl rfl (by kernel_rfl) rfl rfl [U r15.Lo, U r15.Hi] rfl ?_
 intro w21 hst
 refine nx (CW.seq (rg ?_))
 refine pu 3 [(8, .slice a2 (p0).length c3), (9, I ((p0).length : Int)), (10, I 0)] (nx ?_)
 obtain ⟨o124, ho125, hF⟩ := bs hF
 refine CW.cutK (fun a w1 => ∃ (t126 : api_Span), o124 = .inl t126 ∧ Rep 40 [(0, .slice a2 (p0).length c3), (2, Pt b6), (4, Pt b19)] a ∧ St w (fp []) w1 [blkI b6 152 [U 0, U 0], blkI b19 152 [U t126.Lo, U t126.Hi]]) ?_ ?_
 ·refine CW.block ?_
  refine CW.loop (fun n a w1 => ∃ (i195 : Nat) (s194 : api_Span), i195 + n = (p0).length ∧ Rep 40 [(0, .slice a2 (p0).length c3), (2, Pt b6), (4, Pt b19), (8, .slice a2 (p0).length c3), (9, I ((p0).length : Int)), (10, I (i195 : Int))] a ∧ St w (fp []) w1 [blkI b6 152 [U 0, U 0], blkI b19 152 [U s194.Lo, U s194.Hi]] ∧ forN (span_Meet_l1 p0) (fun (s194 : api_Span) => (.inl s194)) n i195 s194 = some o124) (p0).length (fun a ha => ⟨0, r15, Nat.zero_add _, ha.ag, hst.keep [0, 1] rfl, ho125⟩) ?_
  rintro n192 a w1 ⟨i195, s194, hi196, ha, hst, hl193⟩
  refine CW.go ?_ ha
  refine rg ?_
  refine pu 1 [(11, .bool (decide ((i195 : Int) < ((p0).length : Int))))] (nx (CW.seq ?_))
  rcases bft (decide ((i195 : Int) < ((p0).length : Int))) with hc197 | hc197
  ·rcases n192 with _ | n192
   ·exact (cnt0 hi196 hc197).elim
   refine CW.cond_t rfl hc197 (CW.skip (QW.next (CW.seq (CW.block (rg ?_)))))
   obtain ⟨x207, hx208, hl193⟩ := bs hl193
   obtain ⟨g210, o211, c212, hv209⟩ := h0.formv (fun _ => ⟨_, rfl⟩) hx208
   refine OW.idx 152 2 rfl rfl rfl rfl hv209 rfl (idx_some hx208).1 (idx_some hx208).2.1 (by kernel_rfl) (by kernel_rfl) ?_
   refine OW.ldN (cs := enc_api_Span x207) rfl rfl rfl rfl (by kernel_rfl) (by kernel_rfl) (h0.cellv hst hx208 hv209) ?_
   refine OW.alloc hst rfl rfl rfl [U 0, U 0] (by kernel_rfl) ?_
   intro b213 w214 hst
   refine OW.stB hst 2 rfl rfl rfl rfl rfl (by kernel_rfl) rfl rfl [U x207.Lo, U x207.Hi] rfl ?_
   intro w215 hst
   refine nx (CW.seq (rg ?_))
   refine OW.ldN (cs := [U x207.Lo, U x207.Hi]) rfl rfl rfl rfl (by kernel_rfl) (by kernel_rfl) (hst.blkN 2 rfl 0 2) ?_
   obtain ⟨r220, hr221, hl193⟩ := bs hl193
   refine OW.fn rfl rfl rfl rfl (by kernel_rfl) (span_Right_ok _ x207 r220 hr221 (hst.part [] rfl)) ?_
   rintro e w222 ⟨rfl, hst223⟩
   refine ⟨_, rfl, ?_⟩
   have hst := hst.join (idx := []) (rest := [0, 1, 2]) rfl hst223
   refine pu 1 [(16, .bool (!r220))] (nx ?_)
   refine br ((!r220)) hl193 (fun hl193 hc224 => ?_) (fun hl193 hc224 => ?_)
   ·refine rg ?_
    refine pu 1 [(17, .agg [U 0, U 0].toArray)] ?_
    refine OW.stB hst 0 rfl rfl rfl rfl rfl (by kernel_rfl) rfl rfl [U 0, U 0] rfl ?_
    intro w226 hst
    refine pu 1 [(3, .bool false)] (nx (CW.ret (QW.then_ret (QW.block_ret (QW.then_ret (QW.then_ret (QW.block_ret (QW.then_ret ?_))))))))
    obtain rfl := inj hl193
    obtain rfl := inj hF
    refine QW.ret_ct rfl rfl (run_loadN (cs := [U 0, U 0]) (by kernel_rfl) (by kernel_rfl) (hst.blkN 0 rfl 0 2)) rfl ?_
    exact ⟨rfl, hst.keep [] rfl⟩
   refine CW.skip (QW.next (CW.region ?_))
   refine pu 1 [(18, Pt b19)] ?_
   refine OW.ld rfl rfl rfl rfl (by kernel_rfl) (hst.blk 1 rfl rfl) ?_
   refine pu 1 [(20, Pt b213)] ?_
   refine OW.ld rfl rfl rfl rfl (by kernel_rfl) (hst.blk 2 rfl rfl) ?_
   refine pu 2 [(22, U (imax s194.Lo x207.Lo)), (23, .pointer (some ⟨b19, 1, none⟩))] ?_
   refine OW.ld rfl rfl rfl rfl (by kernel_rfl) (hst.blk 1 rfl rfl) ?_
   refine pu 1 [(25, .pointer (some ⟨b213, 1, none⟩))] ?_
   refine OW.ld rfl rfl rfl rfl (by kernel_rfl) (hst.blk 2 rfl rfl) ?_
   refine pu 2 [(28, .agg [U (imax s194.Lo x207.Lo), U (imin s194.Hi x207.Hi)].toArray)] ?_
   refine OW.stB hst 1 rfl rfl rfl rfl rfl (by kernel_rfl) rfl rfl [U (imax s194.Lo x207.Lo), U (imin s194.Hi x207.Hi)] rfl ?_
   intro w228 hst
   refine OW.nil rfl (QW.block_normal (QW.next (CW.region ?_)))
   refine pu 2 [(10, I (w64 ((i195 : Int) + 1)))] (OW.nil rfl ?_)
   refine QW.say 10 rfl (congrArg (Value.int .i64) (w64_cnt hc197 l1)) ?_
   exact QW.meet (fun a ha => ⟨n192, Nat.lt_succ_self _, i195 + 1, (api_Span.mk (imax s194.Lo x207.Lo) (imin s194.Hi x207.Hi)), cnt_next hi196, ha.ag, hst.keep [0, 1] rfl, hl193⟩)
  rcases n192 with _ | n192
  ·refine CW.cond_f rfl hc197 ?_
   refine CW.exit (QW.then_exit (QW.then_exit ?_))
   refine QW.block_here ?_
   obtain rfl := inj hl193
   exact QW.meet (fun a ha => ⟨s194, rfl, ha.ag, hst.keep [0, 1] rfl⟩)
  exact (cnt1 hi196 hc197).elim
 rintro a w1 ⟨t126, rfl, ha, hst⟩
 refine CW.go ?_ ha
 refine CW.seq (CW.seq ?_)
 obtain ⟨o234, ho235, hF⟩ := bs hF
 refine CW.cutK (fun a w1 => Rep 40 [(2, Pt b6), (4, Pt b19), (37, .bool o234)] a ∧ St w (fp []) w1 [blkI b6 152 [U 0, U 0], blkI b19 152 [U t126.Lo, U t126.Hi]]) ?_ ?_
 ·refine CW.region ?_
  refine pu 4 [(33, .bool (((p0).length : Int) == 0))] ?_
  refine OW.split 33 rfl (fun hc236 => ?_) (fun hc236 => ?_)
  ·have ho235 := ite_t ho235 hc236
   refine pu 4 [(37, .bool true)] (OW.nil rfl ?_)
   obtain rfl := inj ho235
   exact QW.meet (fun a ha => ⟨ha.ag, hst.keep [0, 1] rfl⟩)
  have ho235 := ite_f ho235 hc236
  refine OW.ldN (cs := [U t126.Lo, U t126.Hi]) rfl rfl rfl rfl (by kernel_rfl) (by kernel_rfl) (hst.blkN 1 rfl 0 2) ?_
  obtain ⟨r237, hr238, ho235⟩ := bs ho235
  refine OW.fn rfl rfl rfl rfl (by kernel_rfl) (span_Right_ok _ t126 r237 hr238 (hst.part [] rfl)) ?_
  rintro e w239 ⟨rfl, hst240⟩
  refine ⟨_, rfl, ?_⟩
  have hst := hst.join (idx := []) (rest := [0, 1]) rfl hst240
  refine pu 2 [(37, .bool (!r237))] (OW.nil rfl ?_)
  obtain rfl := inj ho235
  exact QW.meet (fun a ha => ⟨ha.ag, hst.keep [0, 1] rfl⟩)
 rintro a w1 ⟨ha, hst⟩
 refine CW.go ?_ ha
 refine br (o234) hF (fun hF hc241 => ?_) (fun hF hc241 => ?_)
 ·refine rg ?_
  refine pu 1 [(38, .agg [U 0, U 0].toArray)] ?_
  refine OW.stB hst 0 rfl rfl rfl rfl rfl (by kernel_rfl) rfl rfl [U 0, U 0] rfl ?_
  intro w243 hst
  refine pu 1 [(3, .bool false)] (nx (CW.ret (QW.then_ret ?_)))
  obtain rfl := inj hF
  refine QW.ret_ct rfl rfl (run_loadN (cs := [U 0, U 0]) (by kernel_rfl) (by kernel_rfl) (hst.blkN 0 rfl 0 2)) rfl ?_
  exact ⟨rfl, hst.keep [] rfl⟩
 refine CW.skip (QW.next (rg ?_))
 refine OW.ldN (cs := [U t126.Lo, U t126.Hi]) rfl rfl rfl rfl (by kernel_rfl) (by kernel_rfl) (hst.blkN 1 rfl 0 2) ?_
 refine OW.stB hst 0 rfl rfl rfl rfl rfl (by kernel_rfl) rfl rfl [U t126.Lo, U t126.Hi] rfl ?_
 intro w245 hst
 refine pu 1 [(3, .bool true)] (nx (CW.ret ?_))
 obtain rfl := inj hF
 refine QW.ret_ct rfl rfl (run_loadN (cs := [U t126.Lo, U t126.Hi]) (by kernel_rfl) (by kernel_rfl) (hst.blkN 0 rfl 0 2)) rfl ?_
 exact ⟨rfl, hst.keep [] rfl⟩
theorem span_Refine_ok (w : World) (p0 : Int) (p1 : api_Span) (p2 : api_Span) (p3 : Bool) (r : api_Span × Bool) (hF : span_Refine p0 p1 p2 p3 = some r)
    (hst : St w (fp []) w []) :
    Calls Tryz.prog 115 [I p0, .agg [U p1.Lo, U p1.Hi].toArray, .agg [U p2.Lo, U p2.Hi].toArray, .bool p3].toArray w (fun e w' => e = .returned (.tuple #[.agg [U r.1.Lo, U r.1.Hi].toArray, .bool r.2]) ∧ St w (fp []) w' []) := by
 refine CW.start (N := 116) Tryz.func115 rfl rfl rfl (rg ?_)
 refine OW.box hst rfl rfl rfl rfl [U p1.Lo, U p1.Hi] rfl ?_
 intro b7 w8 hst
 refine OW.box hst rfl rfl rfl rfl [U p2.Lo, U p2.Hi] rfl ?_
 intro b9 w10 hst
 refine OW.alloc hst rfl rfl rfl [U 0, U 0] (by kernel_rfl) ?_
 intro b11 w12 hst
 refine pu 1 [] (nx (rg ?_))
 refine pu 1 [(14, I p0)] ?_
 obtain ⟨r17, hr18, hF⟩ := bs hF
 refine OW.fn rfl rfl rfl rfl (by kernel_rfl) (arith_Holds_ok _ p0 0 0 r17 hr18 (hst.part [] rfl)) ?_
 rintro e w19 ⟨rfl, hst20⟩
 refine ⟨_, rfl, ?_⟩
 have hst := hst.join (idx := []) (rest := [0, 1, 2]) rfl hst20
 refine pu 5 [(11, .bool r17.2)] (nx (CW.seq (CW.block (CW.seq ?_))))
 obtain ⟨o31, ho32, hF⟩ := bs hF
 refine CW.cutK (fun a w1 => Rep 116 [(0, I p0), (3, .bool p3), (5, Pt b7), (6, Pt b9), (8, Pt b11), (18, .bool o31)] a ∧ St w (fp []) w1 [blkI b7 152 [U p1.Lo, U p1.Hi], blkI b9 152 [U p2.Lo, U p2.Hi], blkI b11 152 [U 0, U 0]]) ?_ ?_
 ·refine CW.region ?_
  refine pu 3 [(21, .bool (!r17.2))] ?_
  refine OW.split 21 rfl (fun hc33 => ?_) (fun hc33 => ?_)
  ·have ho32 := ite_t ho32 hc33
   refine pu 10 [(18, .bool true)] (OW.nil rfl ?_)
   obtain rfl := inj ho32
   exact QW.meet (fun a ha => ⟨ha.ag, hst.keep [0, 1, 2] rfl⟩)
  have ho32 := ite_f ho32 hc33
  refine OW.ldN (cs := [U p1.Lo, U p1.Hi]) rfl rfl rfl rfl (by kernel_rfl) (by kernel_rfl) (hst.blkN 0 rfl 0 2) ?_
  obtain ⟨r34, hr35, ho32⟩ := bs ho32
  refine OW.fn rfl rfl rfl rfl (by kernel_rfl) (span_Right_ok _ p1 r34 hr35 (hst.part [] rfl)) ?_
  rintro e w36 ⟨rfl, hst37⟩
  refine ⟨_, rfl, ?_⟩
  have hst := hst.join (idx := []) (rest := [0, 1, 2]) rfl hst37
  refine pu 3 [(26, .bool (!r34))] ?_
  refine OW.split 26 rfl (fun hc38 => ?_) (fun hc38 => ?_)
  ·have ho32 := ite_t ho32 hc38
   refine pu 5 [(18, .bool true)] (OW.nil rfl ?_)
   obtain rfl := inj ho32
   exact QW.meet (fun a ha => ⟨ha.ag, hst.keep [0, 1, 2] rfl⟩)
  have ho32 := ite_f ho32 hc38
  refine OW.ldN (cs := [U p2.Lo, U p2.Hi]) rfl rfl rfl rfl (by kernel_rfl) (by kernel_rfl) (hst.blkN 1 rfl 0 2) ?_
  obtain ⟨r39, hr40, ho32⟩ := bs ho32
  refine OW.fn rfl rfl rfl rfl (by kernel_rfl) (span_Right_ok _ p2 r39 hr40 (hst.part [] rfl)) ?_
  rintro e w41 ⟨rfl, hst42⟩
  refine ⟨_, rfl, ?_⟩
  have hst := hst.join (idx := []) (rest := [0, 1, 2]) rfl hst42
  refine pu 3 [(18, .bool (!r39))] (OW.nil rfl ?_)
  obtain rfl := inj ho32
  exact QW.meet (fun a ha => ⟨ha.ag, hst.keep [0, 1, 2] rfl⟩)
 rintro a w1 ⟨ha, hst⟩
 refine CW.go ?_ ha
 refine br (o31) hF (fun hF hc43 => ?_) (fun hF hc43 => ?_)
 ·refine rg ?_
  refine pu 1 [(31, .agg [U 0, U 0].toArray)] ?_
  refine OW.stB hst 2 rfl rfl rfl rfl rfl (by kernel_rfl) rfl rfl [U 0, U 0] rfl ?_
  intro w45 hst
  refine pu 1 [(9, .bool false)] (nx (CW.ret (QW.block_ret (QW.then_ret ?_))))
  obtain rfl := inj hF
  refine QW.ret_ct rfl rfl (run_loadN (cs := [U 0, U 0]) (by kernel_rfl) (by kernel_rfl) (hst.blkN 2 rfl 0 2)) rfl ?_
  exact ⟨rfl, hst.keep [] rfl⟩
 refine rg ?_
 refine OW.ldN (cs := [U p2.Lo, U p2.Hi]) rfl rfl rfl rfl (by kernel_rfl) (by kernel_rfl) (hst.blkN 1 rfl 0 2) ?_
 obtain ⟨r50, hr51, hF⟩ := bs hF
 refine OW.fn rfl rfl rfl rfl (by kernel_rfl) (span_single_ok _ p2 r50 hr51 (hst.part [] rfl)) ?_
 rintro e w52 ⟨rfl, hst53⟩
 refine ⟨_, rfl, ?_⟩
 have hst := hst.join (idx := []) (rest := [0, 1, 2]) rfl hst53
 refine pu 2 [(32, .bool (!r50))] (nx ?_)
 refine br ((!r50)) hF (fun hF hc54 => ?_) (fun hF hc54 => ?_)
 ·refine rg ?_
  refine OW.ldN (cs := [U p1.Lo, U p1.Hi]) rfl rfl rfl rfl (by kernel_rfl) (by kernel_rfl) (hst.blkN 0 rfl 0 2) ?_
  refine OW.stB hst 2 rfl rfl rfl rfl rfl (by kernel_rfl) rfl rfl [U p1.Lo, U p1.Hi] rfl ?_
  intro w56 hst
  refine pu 1 [(9, .bool true)] (nx (CW.ret (QW.block_ret (QW.then_ret ?_))))
  obtain rfl := inj hF
  refine QW.ret_ct rfl rfl (run_loadN (cs := [U p1.Lo, U p1.Hi]) (by kernel_rfl) (by kernel_rfl) (hst.blkN 2 rfl 0 2)) rfl ?_
  exact ⟨rfl, hst.keep [] rfl⟩
 refine CW.skip (QW.block_normal (QW.next (rg ?_)))
 refine pu 1 [(37, Pt b9)] ?_
 refine OW.ld rfl rfl rfl rfl (by kernel_rfl) (hst.blk 1 rfl rfl) ?_
 refine pu 1 [(12, U p2.Lo)] (nx (CW.seq (CW.block (CW.seq (CW.seq ?_)))))
 refine CW.cutK (fun a w1 => Rep 116 [(0, I p0), (3, .bool p3), (5, Pt b7), (6, Pt b9), (8, Pt b11), (12, U p2.Lo), (39, .bool ((p0 == 18) && p3))] a ∧ St w (fp []) w1 [blkI b7 152 [U p1.Lo, U p1.Hi], blkI b9 152 [U p2.Lo, U p2.Hi], blkI b11 152 [U 0, U 0]]) ?_ ?_
 ·refine CW.region ?_
  refine pu 3 [(42, .bool (p0 == 18))] ?_
  refine OW.split 42 rfl (fun hc57 => ?_) (fun hc57 => ?_)
  ·refine pu 3 [(39, .bool p3)] (OW.nil rfl ?_)
   refine QW.say 39 (v := .bool ((p0 == 18) && p3)) rfl (by first | (rw [hc57]; done) | (rw [hc57]; rfl) | simp [hc57]) ?_
   exact QW.meet (fun a ha => ⟨ha.ag, hst.keep [0, 1, 2] rfl⟩)
  refine pu 3 [(39, .bool false)] (OW.nil rfl ?_)
  refine QW.say 39 (v := .bool ((p0 == 18) && p3)) rfl (by first | (rw [hc57]; done) | (rw [hc57]; rfl) | simp [hc57]) ?_
  exact QW.meet (fun a ha => ⟨ha.ag, hst.keep [0, 1, 2] rfl⟩)
 rintro a w1 ⟨ha, hst⟩
 refine CW.go ?_ ha
 obtain ⟨o60, ho61, hF⟩ := bs hF
 refine CW.cutK (fun a w1 => Rep 116 [(0, I p0), (3, .bool p3), (5, Pt b7), (6, Pt b9), (8, Pt b11), (12, U p2.Lo), (39, .bool o60)] a ∧ St w (fp []) w1 [blkI b7 152 [U p1.Lo, U p1.Hi], blkI b9 152 [U p2.Lo, U p2.Hi], blkI b11 152 [U 0, U 0]]) ?_ ?_
 ·refine br (((p0 == 18) && p3)) ho61 (fun ho61 hc62 => ?_) (fun ho61 hc62 => ?_)
  ·refine CW.skip ?_
   obtain rfl := inj ho61
   exact QW.meet (fun a ha => ⟨ha.ag, hst.keep [0, 1, 2] rfl⟩)
  refine CW.region ?_
  refine pu 3 [(47, .bool (p0 == 19))] ?_
  refine OW.split 47 rfl (fun hc63 => ?_) (fun hc63 => ?_)
  ·have ho61 := ite_t ho61 hc63
   refine pu 4 [(39, .bool (!p3))] (OW.nil rfl ?_)
   obtain rfl := inj ho61
   exact QW.meet (fun a ha => ⟨ha.ag, hst.keep [0, 1, 2] rfl⟩)
  have ho61 := ite_f ho61 hc63
  refine pu 4 [(39, .bool false)] (OW.nil rfl ?_)
  obtain rfl := inj ho61
  exact QW.meet (fun a ha => ⟨ha.ag, hst.keep [0, 1, 2] rfl⟩)
 rintro a w1 ⟨ha, hst⟩
 refine CW.go ?_ ha
 refine br (o60) hF (fun hF hc64 => ?_) (fun hF hc64 => ?_)
 ·refine CW.seq (rg ?_)
  refine pu 2 [(52, .bool (p2.Lo == 0))] (nx ?_)
  refine br ((p2.Lo == 0)) hF (fun hF hc65 => ?_) (fun hF hc65 => ?_)
  ·refine rg ?_
   refine pu 1 [(53, .agg [U 0, U 0].toArray)] ?_
   refine OW.stB hst 2 rfl rfl rfl rfl rfl (by kernel_rfl) rfl rfl [U 0, U 0] rfl ?_
   intro w67 hst
   refine pu 1 [(9, .bool false)] (nx (CW.ret (QW.then_ret (QW.block_ret (QW.then_ret ?_)))))
   obtain rfl := inj hF
   refine QW.ret_ct rfl rfl (run_loadN (cs := [U 0, U 0]) (by kernel_rfl) (by kernel_rfl) (hst.blkN 2 rfl 0 2)) rfl ?_
   exact ⟨rfl, hst.keep [] rfl⟩
  refine CW.skip (QW.next (rg ?_))
  refine OW.ldN (cs := [U p1.Lo, U p1.Hi]) rfl rfl rfl rfl (by kernel_rfl) (by kernel_rfl) (hst.blkN 0 rfl 0 2) ?_
  refine pu 3 [(57, .agg [U 0, U (wu64 (p2.Lo - 1))].toArray)] ?_
  refine OW.row (α := api_Span) (e := 152) (enc := enc_api_Span) (sz := 2) hst rfl rfl rfl [p1, (api_Span.mk 0 (wu64 (p2.Lo - 1)))] rfl (fun _ => rfl) rfl rfl (fun _ => by kernel_rfl) ?_
  intro g75 w76 hst
  obtain ⟨r77, hr78, hF⟩ := bs hF
  refine OW.fn rfl rfl rfl rfl (by kernel_rfl) (span_Meet_ok _ (.slice (some ⟨g75, 0, none⟩) 2 2) ([p1, (api_Span.mk 0 (wu64 (p2.Lo - 1)))]) r77 hr78 (hst.part [] rfl) (hst.rd 3 rfl (fun _ => rfl) [] rfl (hst.len 3 rfl).1)) ?_
  rintro e w79 ⟨rfl, hst80⟩
  refine ⟨_, rfl, ?_⟩
  have hst := hst.join (idx := []) (rest := [0, 1, 2, 3]) rfl hst80
  refine pu 2 [(60, .agg [U r77.1.Lo, U r77.1.Hi].toArray), (61, .bool r77.2)] ?_
  refine OW.stB hst 2 rfl rfl rfl rfl rfl (by kernel_rfl) rfl rfl [U r77.1.Lo, U r77.1.Hi] rfl ?_
  intro w81 hst
  refine pu 1 [(9, .bool r77.2)] (nx (CW.ret (QW.block_ret (QW.then_ret ?_))))
  obtain rfl := inj hF
  refine QW.ret_ct rfl rfl (run_loadN (cs := [U r77.1.Lo, U r77.1.Hi]) (by kernel_rfl) (by kernel_rfl) (hst.blkN 2 rfl 0 2)) rfl ?_
  exact ⟨rfl, hst.keep [] rfl⟩
 refine CW.seq (rg ?_)
 refine pu 3 [(62, .bool (p0 == 18))] (nx ?_)
 obtain ⟨o83, ho84, hF⟩ := bs hF
 refine CW.cutK (fun a w1 => Rep 116 [(0, I p0), (3, .bool p3), (5, Pt b7), (6, Pt b9), (8, Pt b11), (12, U p2.Lo), (62, .bool o83)] a ∧ St w (fp []) w1 [blkI b7 152 [U p1.Lo, U p1.Hi], blkI b9 152 [U p2.Lo, U p2.Hi], blkI b11 152 [U 0, U 0]]) ?_ ?_
 ·refine br ((p0 == 18)) ho84 (fun ho84 hc85 => ?_) (fun ho84 hc85 => ?_)
  ·refine CW.skip ?_
   obtain rfl := inj ho84
   exact QW.meet (fun a ha => ⟨ha.ag, hst.keep [0, 1, 2] rfl⟩)
  refine CW.region ?_
  refine pu 3 [(62, .bool (p0 == 19))] (OW.nil rfl ?_)
  obtain rfl := inj ho84
  exact QW.meet (fun a ha => ⟨ha.ag, hst.keep [0, 1, 2] rfl⟩)
 rintro a w1 ⟨ha, hst⟩
 refine CW.go ?_ ha
 refine br (o83) hF (fun hF hc86 => ?_) (fun hF hc86 => ?_)
 ·refine rg ?_
  refine OW.ldN (cs := [U p1.Lo, U p1.Hi]) rfl rfl rfl rfl (by kernel_rfl) (by kernel_rfl) (hst.blkN 0 rfl 0 2) ?_
  refine pu 2 [(69, .agg [U p2.Lo, U 18446744073709551615].toArray)] ?_
  refine OW.row (α := api_Span) (e := 152) (enc := enc_api_Span) (sz := 2) hst rfl rfl rfl [p1, (api_Span.mk p2.Lo 18446744073709551615)] rfl (fun _ => rfl) rfl rfl (fun _ => by kernel_rfl) ?_
  intro g94 w95 hst
  obtain ⟨r96, hr97, hF⟩ := bs hF
  refine OW.fn rfl rfl rfl rfl (by kernel_rfl) (span_Meet_ok _ (.slice (some ⟨g94, 0, none⟩) 2 2) ([p1, (api_Span.mk p2.Lo 18446744073709551615)]) r96 hr97 (hst.part [] rfl) (hst.rd 3 rfl (fun _ => rfl) [] rfl (hst.len 3 rfl).1)) ?_
  rintro e w98 ⟨rfl, hst99⟩
  refine ⟨_, rfl, ?_⟩
  have hst := hst.join (idx := []) (rest := [0, 1, 2, 3]) rfl hst99
  refine pu 2 [(72, .agg [U r96.1.Lo, U r96.1.Hi].toArray), (73, .bool r96.2)] ?_
  refine OW.stB hst 2 rfl rfl rfl rfl rfl (by kernel_rfl) rfl rfl [U r96.1.Lo, U r96.1.Hi] rfl ?_
  intro w100 hst
  refine pu 1 [(9, .bool r96.2)] (nx (CW.ret (QW.block_ret (QW.then_ret ?_))))
  obtain rfl := inj hF
  refine QW.ret_ct rfl rfl (run_loadN (cs := [U r96.1.Lo, U r96.1.Hi]) (by kernel_rfl) (by kernel_rfl) (hst.blkN 2 rfl 0 2)) rfl ?_
  exact ⟨rfl, hst.keep [] rfl⟩
 refine CW.seq (CW.seq ?_)
 refine CW.cutK (fun a w1 => Rep 116 [(0, I p0), (3, .bool p3), (5, Pt b7), (6, Pt b9), (8, Pt b11), (12, U p2.Lo), (74, .bool ((p0 == 16) && p3))] a ∧ St w (fp []) w1 [blkI b7 152 [U p1.Lo, U p1.Hi], blkI b9 152 [U p2.Lo, U p2.Hi], blkI b11 152 [U 0, U 0]]) ?_ ?_
 ·refine CW.region ?_
  refine pu 3 [(77, .bool (p0 == 16))] ?_
  refine OW.split 77 rfl (fun hc101 => ?_) (fun hc101 => ?_)
  ·refine pu 3 [(74, .bool p3)] (OW.nil rfl ?_)
   refine QW.say 74 (v := .bool ((p0 == 16) && p3)) rfl (by first | (rw [hc101]; done) | (rw [hc101]; rfl) | simp [hc101]) ?_
   exact QW.meet (fun a ha => ⟨ha.ag, hst.keep [0, 1, 2] rfl⟩)
  refine pu 3 [(74, .bool false)] (OW.nil rfl ?_)
  refine QW.say 74 (v := .bool ((p0 == 16) && p3)) rfl (by first | (rw [hc101]; done) | (rw [hc101]; rfl) | simp [hc101]) ?_
  exact QW.meet (fun a ha => ⟨ha.ag, hst.keep [0, 1, 2] rfl⟩)
 rintro a w1 ⟨ha, hst⟩
 refine CW.go ?_ ha
 obtain ⟨o104, ho105, hF⟩ := bs hF
 refine CW.cutK (fun a w1 => Rep 116 [(5, Pt b7), (6, Pt b9), (8, Pt b11), (12, U p2.Lo), (74, .bool o104)] a ∧ St w (fp []) w1 [blkI b7 152 [U p1.Lo, U p1.Hi], blkI b9 152 [U p2.Lo, U p2.Hi], blkI b11 152 [U 0, U 0]]) ?_ ?_
 ·refine br (((p0 == 16) && p3)) ho105 (fun ho105 hc106 => ?_) (fun ho105 hc106 => ?_)
  ·refine CW.skip ?_
   obtain rfl := inj ho105
   exact QW.meet (fun a ha => ⟨ha.ag, hst.keep [0, 1, 2] rfl⟩)
  refine CW.region ?_
  refine pu 3 [(82, .bool (p0 == 17))] ?_
  refine OW.split 82 rfl (fun hc107 => ?_) (fun hc107 => ?_)
  ·have ho105 := ite_t ho105 hc107
   refine pu 4 [(74, .bool (!p3))] (OW.nil rfl ?_)
   obtain rfl := inj ho105
   exact QW.meet (fun a ha => ⟨ha.ag, hst.keep [0, 1, 2] rfl⟩)
  have ho105 := ite_f ho105 hc107
  refine pu 4 [(74, .bool false)] (OW.nil rfl ?_)
  obtain rfl := inj ho105
  exact QW.meet (fun a ha => ⟨ha.ag, hst.keep [0, 1, 2] rfl⟩)
 rintro a w1 ⟨ha, hst⟩
 refine CW.go ?_ ha
 refine br (o104) hF (fun hF hc108 => ?_) (fun hF hc108 => ?_)
 ·refine rg ?_
  refine OW.ldN (cs := [U p1.Lo, U p1.Hi]) rfl rfl rfl rfl (by kernel_rfl) (by kernel_rfl) (hst.blkN 0 rfl 0 2) ?_
  refine OW.ldN (cs := [U p2.Lo, U p2.Hi]) rfl rfl rfl rfl (by kernel_rfl) (by kernel_rfl) (hst.blkN 1 rfl 0 2) ?_
  refine OW.row (α := api_Span) (e := 152) (enc := enc_api_Span) (sz := 2) hst rfl rfl rfl [p1, p2] rfl (fun _ => rfl) rfl rfl (fun _ => by kernel_rfl) ?_
  intro g116 w117 hst
  obtain ⟨r118, hr119, hF⟩ := bs hF
  refine OW.fn rfl rfl rfl rfl (by kernel_rfl) (span_Meet_ok _ (.slice (some ⟨g116, 0, none⟩) 2 2) ([p1, p2]) r118 hr119 (hst.part [] rfl) (hst.rd 3 rfl (fun _ => rfl) [] rfl (hst.len 3 rfl).1)) ?_
  rintro e w120 ⟨rfl, hst121⟩
  refine ⟨_, rfl, ?_⟩
  have hst := hst.join (idx := []) (rest := [0, 1, 2, 3]) rfl hst121
  refine pu 2 [(90, .agg [U r118.1.Lo, U r118.1.Hi].toArray), (91, .bool r118.2)] ?_
  refine OW.stB hst 2 rfl rfl rfl rfl rfl (by kernel_rfl) rfl rfl [U r118.1.Lo, U r118.1.Hi] rfl ?_
  intro w122 hst
  refine pu 1 [(9, .bool r118.2)] (nx (CW.ret (QW.block_ret (QW.then_ret ?_))))
  obtain rfl := inj hF
  refine QW.ret_ct rfl rfl (run_loadN (cs := [U r118.1.Lo, U r118.1.Hi]) (by kernel_rfl) (by kernel_rfl) (hst.blkN 2 rfl 0 2)) rfl ?_
  exact ⟨rfl, hst.keep [] rfl⟩
 refine rg ?_
 refine OW.ldN (cs := [U p1.Lo, U p1.Hi]) rfl rfl rfl rfl (by kernel_rfl) (by kernel_rfl) (hst.blkN 0 rfl 0 2) ?_
 refine OW.ldN (cs := [U p2.Lo, U p2.Hi]) rfl rfl rfl rfl (by kernel_rfl) (by kernel_rfl) (hst.blkN 1 rfl 0 2) ?_
 refine OW.op (v := .bool ((p1.Lo == p2.Lo) && ((p1.Hi == p2.Hi) && true))) rfl rfl rfl rfl (fun a ha => seq_run rfl rfl rfl (by kernel_rfl) (by kernel_rfl) a _ ha) ?_
 refine pu 1 [(92, .bool ((p1.Lo == p2.Lo) && ((p1.Hi == p2.Hi) && true)))] (nx ?_)
 refine br (((p1.Lo == p2.Lo) && ((p1.Hi == p2.Hi) && true))) hF (fun hF hc123 => ?_) (fun hF hc123 => ?_)
 ·refine rg ?_
  refine pu 1 [(96, .agg [U 0, U 0].toArray)] ?_
  refine OW.stB hst 2 rfl rfl rfl rfl rfl (by kernel_rfl) rfl rfl [U 0, U 0] rfl ?_
  intro w125 hst
  refine pu 1 [(9, .bool false)] (nx (CW.ret (QW.block_ret (QW.then_ret ?_))))
  obtain rfl := inj hF
  refine QW.ret_ct rfl rfl (run_loadN (cs := [U 0, U 0]) (by kernel_rfl) (by kernel_rfl) (hst.blkN 2 rfl 0 2)) rfl ?_
  exact ⟨rfl, hst.keep [] rfl⟩
 refine rg ?_
 refine pu 1 [(98, Pt b7)] ?_
 refine OW.ld rfl rfl rfl rfl (by kernel_rfl) (hst.blk 0 rfl rfl) ?_
 refine pu 3 [(97, .bool (p1.Lo == p2.Lo))] (nx ?_)
 refine br ((p1.Lo == p2.Lo)) hF (fun hF hc126 => ?_) (fun hF hc126 => ?_)
 ·refine CW.region ?_
  refine pu 1 [(102, Pt b7)] ?_
  refine OW.ld rfl rfl rfl rfl (by kernel_rfl) (hst.blk 0 rfl rfl) ?_
  refine pu 2 [(104, U (wu64 (p1.Lo + 1))), (105, Pt b7)] ?_
  refine OW.stB hst 0 rfl rfl rfl rfl rfl (by kernel_rfl) rfl rfl [U (wu64 (p1.Lo + 1)), U p1.Hi] rfl ?_
  intro w128 hst
  refine OW.nil rfl (QW.block_normal (QW.next (rg ?_)))
  refine OW.ldN (cs := [U (wu64 (p1.Lo + 1)), U p1.Hi]) rfl rfl rfl rfl (by kernel_rfl) (by kernel_rfl) (hst.blkN 0 rfl 0 2) ?_
  refine OW.stB hst 2 rfl rfl rfl rfl rfl (by kernel_rfl) rfl rfl [U (wu64 (p1.Lo + 1)), U p1.Hi] rfl ?_
  intro w130 hst
  refine pu 1 [(9, .bool true)] (nx (CW.ret ?_))
  obtain rfl := inj hF
  refine QW.ret_ct rfl rfl (run_loadN (cs := [U (wu64 (p1.Lo + 1)), U p1.Hi]) (by kernel_rfl) (by kernel_rfl) (hst.blkN 2 rfl 0 2)) rfl ?_
  exact ⟨rfl, hst.keep [] rfl⟩
 refine rg ?_
 refine pu 1 [(107, .pointer (some ⟨b7, 1, none⟩))] ?_
 refine OW.ld rfl rfl rfl rfl (by kernel_rfl) (hst.blk 0 rfl rfl) ?_
 refine pu 3 [(106, .bool (p1.Hi == p2.Lo))] (nx ?_)
 refine br ((p1.Hi == p2.Lo)) hF (fun hF hc131 => ?_) (fun hF hc131 => ?_)
 ·refine CW.region ?_
  refine pu 1 [(111, .pointer (some ⟨b7, 1, none⟩))] ?_
  refine OW.ld rfl rfl rfl rfl (by kernel_rfl) (hst.blk 0 rfl rfl) ?_
  refine pu 2 [(113, U (wu64 (p1.Hi - 1))), (114, .pointer (some ⟨b7, 1, none⟩))] ?_
  refine OW.stB hst 0 rfl rfl rfl rfl rfl (by kernel_rfl) rfl rfl [U p1.Lo, U (wu64 (p1.Hi - 1))] rfl ?_
  intro w133 hst
  refine OW.nil rfl (QW.block_normal (QW.next (rg ?_)))
  refine OW.ldN (cs := [U p1.Lo, U (wu64 (p1.Hi - 1))]) rfl rfl rfl rfl (by kernel_rfl) (by kernel_rfl) (hst.blkN 0 rfl 0 2) ?_
  refine OW.stB hst 2 rfl rfl rfl rfl rfl (by kernel_rfl) rfl rfl [U p1.Lo, U (wu64 (p1.Hi - 1))] rfl ?_
  intro w135 hst
  refine pu 1 [(9, .bool true)] (nx (CW.ret ?_))
  obtain rfl := inj hF
  refine QW.ret_ct rfl rfl (run_loadN (cs := [U p1.Lo, U (wu64 (p1.Hi - 1))]) (by kernel_rfl) (by kernel_rfl) (hst.blkN 2 rfl 0 2)) rfl ?_
  exact ⟨rfl, hst.keep [] rfl⟩
 refine CW.skip (QW.block_normal (QW.next (rg ?_)))
 refine OW.ldN (cs := [U p1.Lo, U p1.Hi]) rfl rfl rfl rfl (by kernel_rfl) (by kernel_rfl) (hst.blkN 0 rfl 0 2) ?_
 refine OW.stB hst 2 rfl rfl rfl rfl rfl (by kernel_rfl) rfl rfl [U p1.Lo, U p1.Hi] rfl ?_
 intro w137 hst
 refine pu 1 [(9, .bool true)] (nx (CW.ret ?_))
 obtain rfl := inj hF
 refine QW.ret_ct rfl rfl (run_loadN (cs := [U p1.Lo, U p1.Hi]) (by kernel_rfl) (by kernel_rfl) (hst.blkN 2 rfl 0 2)) rfl ?_
 exact ⟨rfl, hst.keep [] rfl⟩
theorem judge_judge_ways_ok (w : World) (wb : World) (Sb : List Nat) (v0 : Value) (S0 : List Nat) (p0 : judge_judge) (p1 : Int) (p2 : Nat → api_Type) (r : judge_judge) (hF : judge_judge_ways p0 p1 p2 = some r)
    (hst : St w (fp [itI (R_t92 wb Sb) [v0] S0 p0]) w [itI (R_t92 wb Sb) [v0] S0 p0]) (hb : Bor wb Sb w (fp [itI (R_t92 wb Sb) [v0] S0 p0])) (hT0 : Rd w (fp [itI (R_t92 wb Sb) [v0] S0 p0]) (.slice (some ⟨0, 0, none⟩) 23 23) enc_ops_form 2 tab_g0) :
    Calls Tryz.prog 79 [v0, I p1, .agg (arrC (enc_api_Type) 8 p2).toArray].toArray w (fun e w' => ∃ (s0 : List Nat), e = .returned (.tuple #[]) ∧ St w (fp [itI (R_t92 wb Sb) [v0] S0 p0]) w' [itI (R_t92 wb Sb) [v0] s0 r]) := by
 refine CW.start (N := 93) Tryz.func79 rfl rfl rfl ?_
 obtain ⟨b1, rfl⟩ := hst.fptr 0 rfl
 refine rg ?_
 refine OW.box hst rfl rfl rfl rfl (arrC (enc_api_Type) 8 p2) rfl ?_
 intro b4 w5 hst
 refine nx (CW.seq ?_)
 obtain ⟨v6, S7, v8, S9, v10, S11, v12, S13, v14, S15, hst⟩ := hst.openQ5 0 rfl rfl rfl rfl rfl rfl
 have hbo16 := hst.borOut 2 rfl
 have hbr17 := hbo16.bor hb
 have hbo18 := hst.borOut 3 rfl
 have hbr19 := hbo18.bor hb
 have hst := hst.toRow1 4 rfl
 have hst := hst.toRow1 5 rfl
 have hst := hst.toRow1 6 rfl
 have hst := hst.keep [0, 1, 4, 5, 6] rfl
 obtain ⟨l20, a21, c22, rfl⟩ := hbr17.len
 obtain ⟨l23, a24, c25, rfl⟩ := hbr19.len
 obtain ⟨l26, a27, c28, rfl⟩ := hst.len 2 rfl
 obtain ⟨l29, a30, c31, rfl⟩ := hst.len 3 rfl
 obtain ⟨l32, a33, c34, rfl⟩ := hst.len 4 rfl
 have hst : St _ _ _ [blkI b1 146 [.slice a21 (p0.Module.Maps).length c22, .slice a24 (p0.Module.Code).length c25, .slice a27 (p0.came).length c28, .slice a30 (p0.any).length c31, .slice a33 (p0.loops).length c34], _, _, _, _] := hst
 refine CW.region ?_
 refine pu 4 [(20, .pointer (some ⟨b1, 1, none⟩))] ?_
 refine OW.ld rfl rfl rfl rfl (by kernel_rfl) (hst.blk 0 rfl rfl) ?_
 refine pu 1 [(22, I p1)] ?_
 obtain ⟨x44, hx45, hF⟩ := bs hF
 obtain ⟨g47, o48, c49, hv46⟩ := hbr19.formv (fun _ => ⟨_, rfl⟩) hx45
 refine OW.idx 42 5 rfl rfl rfl rfl hv46 rfl (idx_some hx45).1 (idx_some hx45).2.1 (by kernel_rfl) (by kernel_rfl) ?_
 refine OW.ldN (cs := enc_api_Inst x44) rfl rfl rfl rfl (by kernel_rfl) (by kernel_rfl) (hbr19.cellv hst hx45 hv46) ?_
 refine OW.alloc hst rfl rfl rfl [I 0, I 0, I 0, I 0, I 0] (by kernel_rfl) ?_
 intro b50 w51 hst
 refine OW.stB hst 5 rfl rfl rfl rfl rfl (by kernel_rfl) rfl rfl [I x44.Op, I x44.D, I x44.A, I x44.B, I x44.Imm] rfl ?_
 intro w52 hst
 refine nx (rg ?_)
 refine OW.ldN (cs := [I x44.Op, I x44.D, I x44.A, I x44.B, I x44.Imm]) rfl rfl rfl rfl (by kernel_rfl) (by kernel_rfl) (hst.blkN 5 rfl 0 5) ?_
 obtain ⟨r57, hr58, hF⟩ := bs hF
 refine OW.fn rfl rfl rfl rfl (by kernel_rfl) (ops_Goes_ok _ x44 r57 hr58 (hst.part [] rfl) (hT0.give hst [])) ?_
 rintro e w59 ⟨rfl, hst60⟩
 refine ⟨_, rfl, ?_⟩
 have hst := hst.join (idx := []) (rest := [0, 1, 2, 3, 4, 5]) rfl hst60
 refine pu 7 [(7, I r57.1), (8, .bool r57.2.1), (9, .bool r57.2.2)] (nx (CW.seq (CW.seq ?_)))
 refine CW.cutK (fun a w1 => Rep 93 [(0, Pt b1), (1, I p1), (5, Pt b4), (6, Pt b50), (7, I r57.1), (9, .bool r57.2.2), (36, .bool ((!r57.2.1) || decide (r57.1 < 0)))] a ∧ St w (fp [itI (R_t92 wb Sb) [Pt b1] S0 p0]) w1 [blkI b1 146 [.slice a21 (p0.Module.Maps).length c22, .slice a24 (p0.Module.Code).length c25, .slice a27 (p0.came).length c28, .slice a30 (p0.any).length c31, .slice a33 (p0.loops).length c34], blkI b4 156 (arrC (enc_api_Type) 8 p2), rowI (.slice a27 (p0.came).length c28) 156 (arrC (enc_api_Type) 8) 32 p0.came, rowI (.slice a30 (p0.any).length c31) 4 encBool 1 p0.any, rowI (.slice a33 (p0.loops).length c34) 180 enc_api_Loop 3 p0.loops, blkI b50 42 [I x44.Op, I x44.D, I x44.A, I x44.B, I x44.Imm]]) ?_ ?_
 ·refine CW.region ?_
  refine pu 3 [(33, .bool (!r57.2.1))] ?_
  refine OW.split 33 rfl (fun hc61 => ?_) (fun hc61 => ?_)
  ·refine pu 3 [(36, .bool true)] (OW.nil rfl ?_)
   refine QW.say 36 (v := .bool ((!r57.2.1) || decide (r57.1 < 0))) rfl (by first | (rw [hc61]; done) | (rw [hc61]; rfl) | simp [hc61]) ?_
   exact QW.meet (fun a ha => ⟨ha.ag, hst.keep [0, 1, 2, 3, 4, 5] rfl⟩)
  refine pu 3 [(36, .bool (decide (r57.1 < 0)))] (OW.nil rfl ?_)
  refine QW.say 36 (v := .bool ((!r57.2.1) || decide (r57.1 < 0))) rfl (by first | (rw [hc61]; done) | (rw [hc61]; rfl) | simp [hc61]) ?_
  exact QW.meet (fun a ha => ⟨ha.ag, hst.keep [0, 1, 2, 3, 4, 5] rfl⟩)
 rintro a w1 ⟨ha, hst⟩
 refine CW.go ?_ ha
 refine br (((!r57.2.1) || decide (r57.1 < 0))) hF (fun hF hc62 => ?_) (fun hF hc62 => ?_)
 ·refine CW.seq (rg ?_)
  refine pu 1 [(37, .bool r57.2.2)] (nx ?_)
  obtain ⟨o78, ho79, hF⟩ := bs hF
  refine CW.cutK (fun a w1 => ∃ (S77 : List Nat), Rep 93 [] a ∧ St w (fp [itI (R_t92 wb Sb) [Pt b1] S0 p0]) w1 [itI (R_t92 wb Sb) [Pt b1] S77 o78]) ?_ ?_
  ·refine br (r57.2.2) ho79 (fun ho79 hc80 => ?_) (fun ho79 hc80 => ?_)
   ·refine CW.region ?_
    refine pu 3 [(38, Pt b1), (40, I (w64 (p1 + 1)))] ?_
    refine OW.ldN (cs := (arrC (enc_api_Type) 8 p2)) rfl rfl rfl rfl (by kernel_rfl) (by kernel_rfl) (hst.blkN 1 rfl 0 32) ?_
    have hst := hst.borIn hbo16
    have hst := hst.borIn hbo18
    have hst := hst.toIt 2 rfl (fun _ => rfl) (by decide)
    have hst := hst.toIt 3 rfl (fun _ => rfl) (by decide)
    have hst := hst.toIt 4 rfl (fun _ => rfl) (by decide)
    obtain ⟨S87, hst⟩ := hst.shutP5 (R_t146 wb Sb) rfl 0 6 7 2 3 4 [1, 5] rfl rfl rfl rfl rfl rfl rfl p0 rfl rfl
    obtain ⟨r88, hr89, ho79⟩ := bs ho79
    refine OW.fn rfl rfl rfl rfl (by kernel_rfl) (judge_judge_come_ok _ wb Sb (Pt b1) S87 p0 (w64 (p1 + 1)) p2 r88 hr89 (hst.part [2] rfl) (hb.on hst [2])) ?_
    rintro e w90 ⟨S92, rfl, hst91⟩
    refine ⟨_, rfl, ?_⟩
    have hst := hst.join (idx := [2]) (rest := [0, 1]) rfl hst91
    refine OW.nil rfl ?_
    obtain rfl := inj ho79
    exact QW.meet (fun a ha => ⟨S92, ha.ag, hst.keep [0] rfl⟩)
   refine CW.skip ?_
   have hst := hst.borIn hbo16
   have hst := hst.borIn hbo18
   have hst := hst.toIt 2 rfl (fun _ => rfl) (by decide)
   have hst := hst.toIt 3 rfl (fun _ => rfl) (by decide)
   have hst := hst.toIt 4 rfl (fun _ => rfl) (by decide)
   obtain ⟨S93, hst⟩ := hst.shutP5 (R_t146 wb Sb) rfl 0 6 7 2 3 4 [1, 5] rfl rfl rfl rfl rfl rfl rfl p0 rfl rfl
   obtain rfl := inj ho79
   exact QW.meet (fun a ha => ⟨S93, ha.ag, hst.keep [2] rfl⟩)
  rintro a w1 ⟨S77, ha, hst⟩
  refine CW.go ?_ ha
  refine CW.ret (QW.then_ret ?_)
  obtain rfl := inj hF
  refine QW.ret0 rfl ?_
  exact ⟨S77, rfl, hst.keep [0] rfl⟩
 refine CW.skip (QW.next (CW.seq (rg ?_)))
 refine pu 2 [(44, .bool (!r57.2.2))] (nx ?_)
 refine br ((!r57.2.2)) hF (fun hF hc94 => ?_) (fun hF hc94 => ?_)
 ·refine rg ?_
  refine pu 4 [(45, Pt b1), (48, I (w64 (p1 + r57.1)))] ?_
  refine OW.ldN (cs := (arrC (enc_api_Type) 8 p2)) rfl rfl rfl rfl (by kernel_rfl) (by kernel_rfl) (hst.blkN 1 rfl 0 32) ?_
  have hst := hst.borIn hbo16
  have hst := hst.borIn hbo18
  have hst := hst.toIt 2 rfl (fun _ => rfl) (by decide)
  have hst := hst.toIt 3 rfl (fun _ => rfl) (by decide)
  have hst := hst.toIt 4 rfl (fun _ => rfl) (by decide)
  obtain ⟨S101, hst⟩ := hst.shutP5 (R_t146 wb Sb) rfl 0 6 7 2 3 4 [1, 5] rfl rfl rfl rfl rfl rfl rfl p0 rfl rfl
  obtain ⟨r102, hr103, hF⟩ := bs hF
  refine OW.fn rfl rfl rfl rfl (by kernel_rfl) (judge_judge_come_ok _ wb Sb (Pt b1) S101 p0 (w64 (p1 + r57.1)) p2 r102 hr103 (hst.part [2] rfl) (hb.on hst [2])) ?_
  rintro e w104 ⟨S106, rfl, hst105⟩
  refine ⟨_, rfl, ?_⟩
  have hst := hst.join (idx := [2]) (rest := [0, 1]) rfl hst105
  refine nx (CW.ret (QW.then_ret ?_))
  obtain rfl := inj hF
  refine QW.ret0 rfl ?_
  exact ⟨S106, rfl, hst.keep [0] rfl⟩
 refine CW.skip (QW.next (rg ?_))
 refine OW.ldN (cs := [I x44.Op, I x44.D, I x44.A, I x44.B, I x44.Imm]) rfl rfl rfl rfl (by kernel_rfl) (by kernel_rfl) (hst.blkN 5 rfl 0 5) ?_
 refine OW.ldN (cs := (arrC (enc_api_Type) 8 p2)) rfl rfl rfl rfl (by kernel_rfl) (by kernel_rfl) (hst.blkN 1 rfl 0 32) ?_
 obtain ⟨r114, hr115, hF⟩ := bs hF
 refine OW.fn rfl rfl rfl rfl (by kernel_rfl) (judge_source_ok _ x44 p2 r114 hr115 (hst.part [] rfl)) ?_
 rintro e w116 ⟨rfl, hst117⟩
 refine ⟨_, rfl, ?_⟩
 have hst := hst.join (idx := []) (rest := [0, 1, 2, 3, 4, 5]) rfl hst117
 refine OW.alloc hst rfl rfl rfl [I 0, U 0, U 0, I 0] (by kernel_rfl) ?_
 intro b118 w119 hst
 refine OW.stB hst 6 rfl rfl rfl rfl rfl (by kernel_rfl) rfl rfl [I r114.Kind, U r114.Span.Lo, U r114.Span.Hi, I r114.Map] rfl ?_
 intro w120 hst
 refine nx (rg ?_)
 refine OW.row (α := Bool) (e := 4) (enc := encBool) (sz := 1) hst rfl rfl rfl [true, false] rfl (fun _ => rfl) rfl rfl (fun _ => by kernel_rfl) ?_
 intro g123 w124 hst
 refine pu 2 [(55, I 2), (56, I 0)] (nx ?_)
 obtain ⟨o432, ho433, hF⟩ := bs hF
 refine CW.cutQ (fun a w1 => ∃ (S431 : List Nat), Rep 93 [] a ∧ St w (fp [itI (R_t92 wb Sb) [Pt b1] S0 p0]) w1 [itI (R_t92 wb Sb) [Pt b1] S431 o432]) ?_ ?_
 ·refine CW.block ?_
  have hst := hst.borIn hbo16
  have hst := hst.borIn hbo18
  have hst := hst.toIt 2 rfl (fun _ => rfl) (by decide)
  have hst := hst.toIt 3 rfl (fun _ => rfl) (by decide)
  have hst := hst.toIt 4 rfl (fun _ => rfl) (by decide)
  obtain ⟨S434, hst⟩ := hst.shutP5 (R_t146 wb Sb) rfl 0 8 9 2 3 4 [1, 5, 6, 7] rfl rfl rfl rfl rfl rfl rfl p0 rfl rfl
  refine CW.loop (fun n a w1 => ∃ (i639 : Nat) (s637 : judge_judge) (S638 : List Nat), i639 + n = 2 ∧ Rep 93 [(0, Pt b1), (1, I p1), (5, Pt b4), (6, Pt b50), (7, I r57.1), (10, Pt b118), (54, .slice (some ⟨g123, 0, none⟩) 2 2), (55, I 2), (56, I (i639 : Int))] a ∧ St w (fp [itI (R_t92 wb Sb) [Pt b1] S0 p0]) w1 [itI (R_t92 wb Sb) [Pt b1] S638 s637, blkI b4 156 (arrC (enc_api_Type) 8 p2), blkI b50 42 [I x44.Op, I x44.D, I x44.A, I x44.B, I x44.Imm], blkI b118 154 [I r114.Kind, U r114.Span.Lo, U r114.Span.Hi, I r114.Map], rowI (.slice (some ⟨g123, 0, none⟩) 2 2) 4 encBool 1 ([true, false])] ∧ forN (judge_judge_ways_l1 p1 p2 x44 r57 r114) (fun (s637 : judge_judge) => s637) n i639 s637 = some o432) 2 (fun a ha => ⟨0, p0, S434, Nat.zero_add _, ha.ag, hst.keep [4, 0, 1, 2, 3] rfl, ho433⟩) ?_
  rintro n635 a w1 ⟨i639, s637, S638, hi640, ha, hst, hl636⟩
  refine CW.go ?_ ha
  refine rg ?_
  refine pu 1 [(57, .bool (decide ((i639 : Int) < 2)))] (nx (CW.seq ?_))
  rcases bft (decide ((i639 : Int) < 2)) with hc641 | hc641
  ·rcases n635 with _ | n635
   ·exact (cnt0 hi640 hc641).elim
   refine CW.cond_t rfl hc641 (CW.skip (QW.next (CW.seq (CW.block (rg ?_)))))
   obtain ⟨x648, hx649, hl636⟩ := bs hl636
   obtain ⟨g651, o652, c653, hv650⟩ := hst.rowv 4 rfl hx649
   refine OW.idx 4 1 rfl rfl rfl rfl hv650 rfl (idx_some hx649).1 (idx_some hx649).2.1 (by kernel_rfl) (by kernel_rfl) ?_
   refine OW.ld rfl rfl rfl rfl (by kernel_rfl) (hst.rowc 4 rfl (fun _ => rfl) hx649 hv650 0 _ rfl) ?_
   refine pu 1 [(12, .bool x648)] (nx (CW.seq ?_))
   refine CW.plan (by kernel_rfl) ?_
   intro w659 hch660
   have hst := hst.same hch660
   refine OA.pure [0, 1, 2] [(62, I (w64 (p1 + r57.1)))] (by kernel_rfl) ?_
   refine OA.ldN (i := 3) (cs := (arrC (enc_api_Type) 8 p2)) rfl (by kernel_rfl) rfl rfl rfl (by kernel_rfl) (by kernel_rfl) (hst.blkN 1 rfl 0 32) ?_
   refine OA.act (i := 4) [3] (by kernel_rfl) rfl rfl (by kernel_rfl) (by kernel_rfl) ?_
   refine OW.alloc hst rfl rfl rfl [I 0, U 0, U 0, I 0, I 0, U 0, U 0, I 0, I 0, U 0, U 0, I 0, I 0, U 0, U 0, I 0, I 0, U 0, U 0, I 0, I 0, U 0, U 0, I 0, I 0, U 0, U 0, I 0, I 0, U 0, U 0, I 0] (by kernel_rfl) ?_
   intro b661 w662 hst
   refine OA.next ⟨(hst.blkN 1 rfl 0 32), trivial⟩ ?_
   refine OA.act (i := 5) [3] (by kernel_rfl) rfl rfl (by kernel_rfl) (by kernel_rfl) ?_
   refine pu 1 [(13, I (w64 (p1 + r57.1)))] ?_
   refine OA.next ⟨(hst.blkN 1 rfl 0 32), trivial⟩ ?_
   refine OA.act (i := 6) [] (by kernel_rfl) rfl rfl (by kernel_rfl) (by kernel_rfl) ?_
   refine OW.stB hst 5 rfl rfl rfl rfl rfl (by kernel_rfl) rfl rfl (arrC (enc_api_Type) 8 p2) rfl ?_
   intro w663 hst
   refine OA.next trivial ?_
   refine OA.fin (by kernel_rfl) (by kernel_rfl) (QW.next (CW.seq (rg ?_)))
   refine pu 2 [(65, .bool (!x648))] (nx ?_)
   obtain ⟨o665, ho666, hl636⟩ := bs hl636
   refine CW.cutK (fun a w1 => Rep 93 [(0, Pt b1), (1, I p1), (5, Pt b4), (6, Pt b50), (7, I r57.1), (10, Pt b118), (12, .bool x648), (13, I o665), (14, Pt b661), (54, .slice (some ⟨g123, 0, none⟩) 2 2), (55, I 2), (56, I (i639 : Int))] a ∧ St w (fp [itI (R_t92 wb Sb) [Pt b1] S0 p0]) w1 [itI (R_t92 wb Sb) [Pt b1] S638 s637, blkI b4 156 (arrC (enc_api_Type) 8 p2), blkI b50 42 [I x44.Op, I x44.D, I x44.A, I x44.B, I x44.Imm], blkI b118 154 [I r114.Kind, U r114.Span.Lo, U r114.Span.Hi, I r114.Map], blkI b661 156 (arrC (enc_api_Type) 8 p2), rowI (.slice (some ⟨g123, 0, none⟩) 2 2) 4 encBool 1 ([true, false])]) ?_ ?_
   ·refine br ((!x648)) ho666 (fun ho666 hc667 => ?_) (fun ho666 hc667 => ?_)
    ·refine CW.region ?_
     refine pu 3 [(13, I (w64 (p1 + 1)))] (OW.nil rfl ?_)
     obtain rfl := inj ho666
     exact QW.meet (fun a ha => ⟨ha.ag, hst.keep [0, 1, 2, 3, 5, 4] rfl⟩)
    refine CW.skip ?_
    obtain rfl := inj ho666
    exact QW.meet (fun a ha => ⟨ha.ag, hst.keep [0, 1, 2, 3, 5, 4] rfl⟩)
   rintro a w1 ⟨ha, hst⟩
   refine CW.go ?_ ha
   refine CW.seq ?_
   obtain ⟨o691, ho692, hl636⟩ := bs hl636
   refine CW.cutK (fun a w1 => ∃ (b690 : Nat), Rep 93 [(0, Pt b1), (1, I p1), (5, Pt b4), (6, Pt b50), (7, I r57.1), (10, Pt b118), (13, I o665), (14, Pt b661), (15, Pt b690), (16, .bool o691.2), (54, .slice (some ⟨g123, 0, none⟩) 2 2), (55, I 2), (56, I (i639 : Int))] a ∧ St w (fp [itI (R_t92 wb Sb) [Pt b1] S0 p0]) w1 [itI (R_t92 wb Sb) [Pt b1] S638 s637, blkI b4 156 (arrC (enc_api_Type) 8 p2), blkI b50 42 [I x44.Op, I x44.D, I x44.A, I x44.B, I x44.Imm], blkI b118 154 [I r114.Kind, U r114.Span.Lo, U r114.Span.Hi, I r114.Map], blkI b661 156 (arrC (enc_api_Type) 8 p2), blkI b690 152 [U o691.1.Lo, U o691.1.Hi], rowI (.slice (some ⟨g123, 0, none⟩) 2 2) 4 encBool 1 ([true, false])]) ?_ ?_
   ·refine CW.plan (by kernel_rfl) ?_
    intro w693 hch694
    have hst := hst.same hch694
    refine OA.pure [0] [(69, Pt b50)] (by kernel_rfl) ?_
    refine OA.ld (i := 1) rfl (by kernel_rfl) rfl rfl rfl (by kernel_rfl) (hst.blk 2 rfl rfl) ?_
    refine OA.pure [2] [(71, .pointer (some ⟨b50, 2, none⟩))] (by kernel_rfl) ?_
    refine OA.ld (i := 3) rfl (by kernel_rfl) rfl rfl rfl (by kernel_rfl) (hst.blk 2 rfl rfl) ?_
    obtain ⟨i695, hi696, ho692⟩ := bs ho692
    refine OA.val (i := 4) (v := .pointer (some ⟨b4, 0 + Int.toNat x44.A * 4, none⟩)) rfl (by kernel_rfl) rfl rfl rfl rfl (fun a w ha => aidx_run (n := 8) 154 4 rfl rfl rfl (ain_some hi696).1 (ain_some hi696).2.1 (by kernel_rfl) (by kernel_rfl) a w ha) ?_
    refine OA.pure [5] [(74, .pointer (some ⟨b4, 0 + Int.toNat x44.A * 4 + 1, none⟩))] (by kernel_rfl) ?_
    refine OA.ldN (i := 6) (cs := [U (p2 i695).Span.Lo, U (p2 i695).Span.Hi]) rfl (by kernel_rfl) rfl rfl rfl (by kernel_rfl) (by kernel_rfl) (elN (hst.arrB 1 rfl enc_api_Type (fun _ => rfl) 8 p2 0 rfl rfl hi696) 1 2) ?_
    refine OA.pure [7] [(76, .pointer (some ⟨b118, 1, none⟩))] (by kernel_rfl) ?_
    refine OA.ldN (i := 8) (cs := [U r114.Span.Lo, U r114.Span.Hi]) rfl (by kernel_rfl) rfl rfl rfl (by kernel_rfl) (by kernel_rfl) (hst.blkN 3 rfl 1 2) ?_
    refine OA.pure [9] [(78, .bool x648)] (by kernel_rfl) ?_
    refine OA.acts [10, 14] 10 (by kernel_rfl) (by kernel_rfl) (by kernel_rfl) (alts_cons ?_ (alts_cons ?_ alts_nil))
    ·refine Alt.of (i := 10) [] rfl rfl (by kernel_rfl) (by kernel_rfl) ?_
     obtain ⟨r697, hr698, ho692⟩ := bs ho692
     refine OW.fn rfl rfl rfl rfl (by kernel_rfl) (span_Refine_ok _ x44.Op (p2 i695).Span r114.Span x648 r697 hr698 (hst.part [] rfl)) ?_
     rintro e w699 ⟨rfl, hst700⟩
     refine ⟨_, rfl, ?_⟩
     have hst := hst.join (idx := []) (rest := [0, 1, 2, 3, 4, 5]) rfl hst700
     refine OA.next trivial ?_
     refine OA.pure [11, 12, 13] [(80, .agg [U r697.1.Lo, U r697.1.Hi].toArray), (81, .bool r697.2)] (by kernel_rfl) ?_
     refine OA.act (i := 14) [] (by kernel_rfl) rfl rfl (by kernel_rfl) (by kernel_rfl) ?_
     refine OW.alloc hst rfl rfl rfl [U 0, U 0] (by kernel_rfl) ?_
     intro b701 w702 hst
     refine OA.next trivial ?_
     refine OA.act (i := 15) [] (by kernel_rfl) rfl rfl (by kernel_rfl) (by kernel_rfl) ?_
     refine OW.stB hst 6 rfl rfl rfl rfl rfl (by kernel_rfl) rfl rfl [U r697.1.Lo, U r697.1.Hi] rfl ?_
     intro w703 hst
     refine OA.next trivial ?_
     refine OA.act (i := 16) [] (by kernel_rfl) rfl rfl (by kernel_rfl) (by kernel_rfl) ?_
     refine pu 1 [(16, .bool r697.2)] (OA.next trivial ?_)
     refine OA.fin (by kernel_rfl) (by kernel_rfl) ?_
     obtain rfl := inj ho692
     exact QW.meet (fun a ha => ⟨b701, ha.ag, hst.keep [0, 1, 2, 3, 4, 6, 5] rfl⟩)
    refine Alt.of (i := 14) [8, 6, 3, 1] rfl rfl (by kernel_rfl) (by kernel_rfl) ?_
    refine OW.alloc hst rfl rfl rfl [U 0, U 0] (by kernel_rfl) ?_
    intro b704 w705 hst
    refine OA.next ⟨(hst.blkN 3 rfl 1 2), (elN (hst.arrB 1 rfl enc_api_Type (fun _ => rfl) 8 p2 0 rfl rfl hi696) 1 2), (hst.blk 2 rfl rfl), (hst.blk 2 rfl rfl), trivial⟩ ?_
    refine OA.act (i := 10) [] (by kernel_rfl) rfl rfl (by kernel_rfl) (by kernel_rfl) ?_
    obtain ⟨r706, hr707, ho692⟩ := bs ho692
    refine OW.fn rfl rfl rfl rfl (by kernel_rfl) (span_Refine_ok _ x44.Op (p2 i695).Span r114.Span x648 r706 hr707 (hst.part [] rfl)) ?_
    rintro e w708 ⟨rfl, hst709⟩
    refine ⟨_, rfl, ?_⟩
    have hst := hst.join (idx := []) (rest := [0, 1, 2, 3, 4, 5, 6]) rfl hst709
    refine OA.next trivial ?_
    refine OA.pure [11, 12, 13] [(80, .agg [U r706.1.Lo, U r706.1.Hi].toArray), (81, .bool r706.2)] (by kernel_rfl) ?_
    refine OA.act (i := 15) [] (by kernel_rfl) rfl rfl (by kernel_rfl) (by kernel_rfl) ?_
    refine OW.stB hst 6 rfl rfl rfl rfl rfl (by kernel_rfl) rfl rfl [U r706.1.Lo, U r706.1.Hi] rfl ?_
    intro w710 hst
    refine OA.next trivial ?_
    refine OA.act (i := 16) [] (by kernel_rfl) rfl rfl (by kernel_rfl) (by kernel_rfl) ?_
    refine pu 1 [(16, .bool r706.2)] (OA.next trivial ?_)
    refine OA.fin (by kernel_rfl) (by kernel_rfl) ?_
    obtain rfl := inj ho692
    exact QW.meet (fun a ha => ⟨b704, ha.ag, hst.keep [0, 1, 2, 3, 4, 6, 5] rfl⟩)
   rintro a w1 ⟨b690, ha, hst⟩
   refine CW.go ?_ ha
   refine rg ?_
   refine pu 1 [(82, .bool o691.2)] (nx ?_)
   refine br (o691.2) hl636 (fun hl636 hc711 => ?_) (fun hl636 hc711 => ?_)
   ·refine CW.seq ?_
    refine CW.plan (by kernel_rfl) ?_
    intro w721 hch722
    have hst := hst.same hch722
    refine OA.pure [0] [(83, .pointer (some ⟨b50, 2, none⟩))] (by kernel_rfl) ?_
    refine OA.ld (i := 1) rfl (by kernel_rfl) rfl rfl rfl (by kernel_rfl) (hst.blk 2 rfl rfl) ?_
    refine OA.ldN (i := 2) (cs := [U o691.1.Lo, U o691.1.Hi]) rfl (by kernel_rfl) rfl rfl rfl (by kernel_rfl) (by kernel_rfl) (hst.blkN 5 rfl 0 2) ?_
    refine OA.act (i := 3) [1] (by kernel_rfl) rfl rfl (by kernel_rfl) (by kernel_rfl) ?_
    obtain ⟨r723, hr724, hl636⟩ := bs hl636
    refine OW.fn rfl rfl rfl rfl (by kernel_rfl) (judge_number_ok _ o691.1 r723 hr724 (hst.part [] rfl)) ?_
    rintro e w725 ⟨rfl, hst726⟩
    refine ⟨_, rfl, ?_⟩
    have hst := hst.join (idx := []) (rest := [0, 1, 2, 3, 4, 5, 6]) rfl hst726
    refine OA.next ⟨(hst.blk 2 rfl rfl), trivial⟩ ?_
    obtain ⟨i727, hi728, hl636⟩ := bs hl636
    refine OA.val (i := 4) (v := .pointer (some ⟨b661, 0 + Int.toNat x44.A * 4, none⟩)) rfl (by kernel_rfl) rfl rfl rfl rfl (fun a w ha => aidx_run (n := 8) 154 4 rfl rfl rfl (ain_some hi728).1 (ain_some hi728).2.1 (by kernel_rfl) (by kernel_rfl) a w ha) ?_
    refine OA.act (i := 5) [] (by kernel_rfl) rfl rfl (by kernel_rfl) (by kernel_rfl) ?_
    refine OW.stA hst 4 rfl rfl rfl rfl rfl (by kernel_rfl) rfl enc_api_Type (fun _ => rfl) 8 p2 0 rfl rfl hi728 0 rfl rfl r723 rfl (arrC (enc_api_Type) 8 (aset p2 i727 r723)) rfl ?_
    intro w729 hst
    refine OA.next trivial ?_
    refine OA.fin (by kernel_rfl) (by kernel_rfl) (QW.next (CW.region ?_))
    refine pu 2 [(88, Pt b1), (89, I o665)] ?_
    refine OW.ldN (cs := (arrC (enc_api_Type) 8 (aset p2 i727 r723))) rfl rfl rfl rfl (by kernel_rfl) (by kernel_rfl) (hst.blkN 4 rfl 0 32) ?_
    obtain ⟨r735, hr736, hl636⟩ := bs hl636
    refine OW.fn rfl rfl rfl rfl (by kernel_rfl) (judge_judge_come_ok _ wb Sb (Pt b1) S638 s637 o665 (aset p2 i727 r723) r735 hr736 (hst.part [0] rfl) (hb.on hst [0])) ?_
    rintro e w737 ⟨S739, rfl, hst738⟩
    refine ⟨_, rfl, ?_⟩
    have hst := hst.join (idx := [0]) (rest := [1, 2, 3, 4, 5, 6]) rfl hst738
    refine OW.nil rfl (QW.block_normal (QW.next (CW.region ?_)))
    refine pu 2 [(56, I (w64 ((i639 : Int) + 1)))] (OW.nil rfl ?_)
    refine QW.say 56 rfl (congrArg (Value.int .i64) (w64_cnt hc641 (by decide))) ?_
    exact QW.meet (fun a ha => ⟨n635, Nat.lt_succ_self _, i639 + 1, r735, S739, cnt_next hi640, ha.ag, hst.keep [0, 1, 2, 3, 6] rfl, hl636⟩)
   refine CW.skip (QW.block_normal (QW.next (CW.region ?_)))
   refine pu 2 [(56, I (w64 ((i639 : Int) + 1)))] (OW.nil rfl ?_)
   refine QW.say 56 rfl (congrArg (Value.int .i64) (w64_cnt hc641 (by decide))) ?_
   exact QW.meet (fun a ha => ⟨n635, Nat.lt_succ_self _, i639 + 1, s637, S638, cnt_next hi640, ha.ag, hst.keep [0, 1, 2, 3, 6] rfl, hl636⟩)
  rcases n635 with _ | n635
  ·refine CW.cond_f rfl hc641 ?_
   refine CW.exit (QW.then_exit (QW.then_exit ?_))
   refine QW.block_here ?_
   obtain rfl := inj hl636
   exact QW.meet (fun a ha => ⟨S638, ha.ag, hst.keep [0] rfl⟩)
  exact (cnt1 hi640 hc641).elim
 rintro a w1 ⟨S431, ha, hst⟩
 refine QW.go ?_ ha
 obtain rfl := inj hF
 refine QW.end0 rfl ?_
 exact ⟨S431, rfl, hst.keep [0] rfl⟩
end Go.Proofs.YtdnogiegiclcfaaGreatDoor

/- Written by a program (wip/gen): the walks: each Go function returns what its plain function computes. -/
import Derived.Test.YtpchniebplpboaaProg
import Derived.Test.YtpchniebplpboaaF1
import Derived.Test.YtpchniebplpboaaSq
import Derived.Test.YtpchniebplpboaaPart
import Derived.Test.YtpchniebplpboaaO1
import Derived.Test.YtpchniebplpboaaW1p1
set_option linter.unusedSimpArgs false
namespace Go.Proofs.Ytpchniebplpboaa
open Go.Sx
set_option linter.unusedVariables false
set_option maxRecDepth 10000
set_option maxHeartbeats 4000000
theorem tappetref14_LRU_Do_ok (w : World) (fu : Nat) (v0 : Value) (S0 : List Nat) (p0 : tappetref14_LRU) (p1 : Int) (p2 : Int) (p3 : Int) (r : api_Res × tappetref14_LRU) (hF : tappetref14_LRU_Do fu p0 p1 p2 p3 = some r)
    (hst : St w (fp [itI R_t109 [v0] S0 p0]) w [itI R_t109 [v0] S0 p0]) :
    Calls Try.prog 36 [v0, I p1, U p2, U p3].toArray w (fun e w' => ∃ (s0 : List Nat), e = .returned (.agg [I r.1.E, .bool r.1.Found, U r.1.Val, .bool r.1.Out, U r.1.OutKey, U r.1.OutVal].toArray) ∧ St w (fp [itI R_t109 [v0] S0 p0]) w' [itI R_t109 [v0] s0 r.2]) := by
 refine CW.start (N := 165) Try.func36 rfl rfl rfl ?_
 obtain ⟨b1, rfl⟩ := hst.fptr 0 rfl
 refine rg ?_
 refine OW.alloc hst rfl rfl rfl [I 0, .bool false, U 0, .bool false, U 0, U 0] (by kernel_rfl) ?_
 intro b4 w5 hst
 refine nx (CW.seq ?_)
 obtain ⟨v6, S7, v8, S9, v10, S11, hst⟩ := hst.openQ3 0 rfl rfl rfl rfl
 have hst := hst.toRow1 3 rfl
 have hst := hst.toRow1 4 rfl
 obtain ⟨b12, rfl⟩ := hst.fptr 2 rfl
 obtain ⟨l13, a14, c15, rfl⟩ := hst.len 3 rfl
 obtain ⟨l16, a17, c18, rfl⟩ := hst.len 4 rfl
 have hst : St _ _ _ [blkI b1 125 [Pt b12, .slice a14 (p0.Keys).length c15, .slice a17 (p0.When).length c18, I p0.Clock], _, _, _, _] := hst
 refine CW.region ?_
 refine pu 3 [(16, Pt b1)] ?_
 refine OW.ld rfl rfl rfl rfl (by kernel_rfl) (hst.blk 0 rfl rfl) ?_
 refine pu 1 [(18, U p2)] ?_
 obtain ⟨r24, hr25, hF⟩ := bs hF
 refine OW.fn rfl rfl rfl rfl (by kernel_rfl) (tappetref13_Book_Do_ok _ fu (Pt b12) S7 p0.B 1 p2 0 r24 hr25 (hst.part [2] rfl)) ?_
 rintro e w26 ⟨S28, rfl, hst27⟩
 refine ⟨_, rfl, ?_⟩
 have hst := hst.join (idx := [2]) (rest := [0, 1, 3, 4]) rfl hst27
 refine pu 2 [(9, .bool r24.1.Found)] (nx (rg ?_))
 refine OW.alloc hst rfl rfl rfl [I 0, .bool false, U 0, .bool false, U 0, U 0] (by kernel_rfl) ?_
 intro b31 w33 hst
 refine nx (CW.seq (CW.seq ?_))
 obtain ⟨o60, ho61, hF⟩ := bs hF
 refine CW.cutK (fun a w1 => ∃ (S59 : List Nat), Rep 165 [(0, Pt b1), (1, I p1), (2, U p2), (3, U p3), (8, Pt b4), (9, .bool r24.1.Found), (10, Pt b31), (48, .bool o60)] a ∧ St w (fp [itI R_t109 [Pt b1] S0 p0]) w1 [itI R_t109 [Pt b1] S59 (tappetref14_LRU.mk r24.2 p0.Keys p0.When p0.Clock), itI R_t171 [Pt b4] ([b4]) (api_Res.mk 0 false 0 false 0 0), itI R_t171 [Pt b31] ([b31]) (api_Res.mk 0 false 0 false 0 0)]) ?_ ?_
 ·refine CW.still (by kernel_rfl) (by kernel_rfl) ?_
  intro w62 hch63
  have hst := hst.same hch63
  refine OS.pure 3 [(23, .bool (p1 == 2))] rfl (by kernel_rfl) ?_
  refine OS.split 23 rfl (fun hc64 => ?_) (fun hc64 => ?_)
  ·have ho61 := ite_t ho61 hc64
   refine OS.pure 8 [(31, .bool (!r24.1.Found))] rfl (by kernel_rfl) ?_
   refine OS.split 31 rfl (fun hc65 => ?_) (fun hc65 => ?_)
   ·have ho61 := ite_t ho61 hc65
    refine OS.pure 3 [(34, Pt b1)] rfl (by kernel_rfl) ?_
    refine OS.ld rfl rfl rfl rfl rfl (by kernel_rfl) (hst.blk 1 rfl rfl) ?_
    obtain ⟨v66, S67, hst⟩ := hst.openQ1 0 rfl rfl
    have hst := hst.toRow1 6 rfl
    obtain ⟨l68, a69, c70, rfl⟩ := hst.len 6 rfl
    have hst : St _ _ _ [blkI b12 122 [I r24.2.Cap, .slice a69 (r24.2.List).length c70], _, _, _, _, _, _] := hst
    refine OS.pure 2 [(37, .pointer (some ⟨b12, 1, none⟩))] rfl (by kernel_rfl) ?_
    refine OS.ld rfl rfl rfl rfl rfl (by kernel_rfl) (hst.blk 0 rfl rfl) ?_
    refine OS.pure 4 [(39, I ((r24.2.List).length : Int)), (42, Pt b1)] rfl (by kernel_rfl) ?_
    refine OS.ld rfl rfl rfl rfl rfl (by kernel_rfl) (hst.blk 1 rfl rfl) ?_
    refine OS.pure 2 [(45, Pt b12)] rfl (by kernel_rfl) ?_
    refine OS.ld rfl rfl rfl rfl rfl (by kernel_rfl) (hst.blk 0 rfl rfl) ?_
    refine OS.pure 2 [(48, .bool (((r24.2.List).length : Int) == r24.2.Cap))] rfl (by kernel_rfl) ?_
    refine OS.fin rfl ?_
    have hst := hst.toIt 6 rfl (fun _ => rfl) (by decide)
    obtain ⟨S71, hst⟩ := hst.shutP1 R_t122 rfl 0 6 [1, 2, 3, 4, 5] rfl rfl rfl r24.2 rfl rfl
    have hst := hst.toIt 2 rfl (fun _ => rfl) (by decide)
    have hst := hst.toIt 3 rfl (fun _ => rfl) (by decide)
    obtain ⟨S72, hst⟩ := hst.shutP3 R_t125 rfl 0 5 2 3 [1, 4] rfl rfl rfl rfl rfl (tappetref14_LRU.mk r24.2 p0.Keys p0.When p0.Clock) rfl rfl
    have hst := hst.shutP0 (enc := enc_api_Res) (sz := 6) (he := fun _ => rfl) 0 rfl (api_Res.mk 0 false 0 false 0 0) rfl
    have hst := hst.shutP0 (enc := enc_api_Res) (sz := 6) (he := fun _ => rfl) 1 rfl (api_Res.mk 0 false 0 false 0 0) rfl
    obtain rfl := inj ho61
    exact QW.meet (fun a ha => ⟨S72, ha.ag, hst.keep [2, 0, 1] rfl⟩)
   have ho61 := ite_f ho61 hc65
   refine OS.pure 17 [(48, .bool false)] rfl (by kernel_rfl) ?_
   refine OS.fin rfl ?_
   have hst := hst.toIt 3 rfl (fun _ => rfl) (by decide)
   have hst := hst.toIt 4 rfl (fun _ => rfl) (by decide)
   obtain ⟨S73, hst⟩ := hst.shutP3 R_t125 rfl 1 0 3 4 [2, 5] rfl rfl rfl rfl rfl (tappetref14_LRU.mk r24.2 p0.Keys p0.When p0.Clock) rfl rfl
   have hst := hst.shutP0 (enc := enc_api_Res) (sz := 6) (he := fun _ => rfl) 0 rfl (api_Res.mk 0 false 0 false 0 0) rfl
   have hst := hst.shutP0 (enc := enc_api_Res) (sz := 6) (he := fun _ => rfl) 1 rfl (api_Res.mk 0 false 0 false 0 0) rfl
   obtain rfl := inj ho61
   exact QW.meet (fun a ha => ⟨S73, ha.ag, hst.keep [2, 0, 1] rfl⟩)
  have ho61 := ite_f ho61 hc64
  refine OS.pure 4 [(27, .bool (p1 == 4))] rfl (by kernel_rfl) ?_
  refine OS.split 27 rfl (fun hc74 => ?_) (fun hc74 => ?_)
  ·have ho61 := ite_t ho61 hc74
   refine OS.pure 4 [(31, .bool (!r24.1.Found))] rfl (by kernel_rfl) ?_
   refine OS.split 31 rfl (fun hc75 => ?_) (fun hc75 => ?_)
   ·have ho61 := ite_t ho61 hc75
    refine OS.pure 3 [(34, Pt b1)] rfl (by kernel_rfl) ?_
    refine OS.ld rfl rfl rfl rfl rfl (by kernel_rfl) (hst.blk 1 rfl rfl) ?_
    obtain ⟨v76, S77, hst⟩ := hst.openQ1 0 rfl rfl
    have hst := hst.toRow1 6 rfl
    obtain ⟨l78, a79, c80, rfl⟩ := hst.len 6 rfl
    have hst : St _ _ _ [blkI b12 122 [I r24.2.Cap, .slice a79 (r24.2.List).length c80], _, _, _, _, _, _] := hst
    refine OS.pure 2 [(37, .pointer (some ⟨b12, 1, none⟩))] rfl (by kernel_rfl) ?_
    refine OS.ld rfl rfl rfl rfl rfl (by kernel_rfl) (hst.blk 0 rfl rfl) ?_
    refine OS.pure 4 [(39, I ((r24.2.List).length : Int)), (42, Pt b1)] rfl (by kernel_rfl) ?_
    refine OS.ld rfl rfl rfl rfl rfl (by kernel_rfl) (hst.blk 1 rfl rfl) ?_
    refine OS.pure 2 [(45, Pt b12)] rfl (by kernel_rfl) ?_
    refine OS.ld rfl rfl rfl rfl rfl (by kernel_rfl) (hst.blk 0 rfl rfl) ?_
    refine OS.pure 2 [(48, .bool (((r24.2.List).length : Int) == r24.2.Cap))] rfl (by kernel_rfl) ?_
    refine OS.fin rfl ?_
    have hst := hst.toIt 6 rfl (fun _ => rfl) (by decide)
    obtain ⟨S81, hst⟩ := hst.shutP1 R_t122 rfl 0 6 [1, 2, 3, 4, 5] rfl rfl rfl r24.2 rfl rfl
    have hst := hst.toIt 2 rfl (fun _ => rfl) (by decide)
    have hst := hst.toIt 3 rfl (fun _ => rfl) (by decide)
    obtain ⟨S82, hst⟩ := hst.shutP3 R_t125 rfl 0 5 2 3 [1, 4] rfl rfl rfl rfl rfl (tappetref14_LRU.mk r24.2 p0.Keys p0.When p0.Clock) rfl rfl
    have hst := hst.shutP0 (enc := enc_api_Res) (sz := 6) (he := fun _ => rfl) 0 rfl (api_Res.mk 0 false 0 false 0 0) rfl
    have hst := hst.shutP0 (enc := enc_api_Res) (sz := 6) (he := fun _ => rfl) 1 rfl (api_Res.mk 0 false 0 false 0 0) rfl
    obtain rfl := inj ho61
    exact QW.meet (fun a ha => ⟨S82, ha.ag, hst.keep [2, 0, 1] rfl⟩)
   have ho61 := ite_f ho61 hc75
   refine OS.pure 17 [(48, .bool false)] rfl (by kernel_rfl) ?_
   refine OS.fin rfl ?_
   have hst := hst.toIt 3 rfl (fun _ => rfl) (by decide)
   have hst := hst.toIt 4 rfl (fun _ => rfl) (by decide)
   obtain ⟨S83, hst⟩ := hst.shutP3 R_t125 rfl 1 0 3 4 [2, 5] rfl rfl rfl rfl rfl (tappetref14_LRU.mk r24.2 p0.Keys p0.When p0.Clock) rfl rfl
   have hst := hst.shutP0 (enc := enc_api_Res) (sz := 6) (he := fun _ => rfl) 0 rfl (api_Res.mk 0 false 0 false 0 0) rfl
   have hst := hst.shutP0 (enc := enc_api_Res) (sz := 6) (he := fun _ => rfl) 1 rfl (api_Res.mk 0 false 0 false 0 0) rfl
   obtain rfl := inj ho61
   exact QW.meet (fun a ha => ⟨S83, ha.ag, hst.keep [2, 0, 1] rfl⟩)
  have ho61 := ite_f ho61 hc74
  refine OS.pure 21 [(48, .bool false)] rfl (by kernel_rfl) ?_
  refine OS.fin rfl ?_
  have hst := hst.toIt 3 rfl (fun _ => rfl) (by decide)
  have hst := hst.toIt 4 rfl (fun _ => rfl) (by decide)
  obtain ⟨S84, hst⟩ := hst.shutP3 R_t125 rfl 1 0 3 4 [2, 5] rfl rfl rfl rfl rfl (tappetref14_LRU.mk r24.2 p0.Keys p0.When p0.Clock) rfl rfl
  have hst := hst.shutP0 (enc := enc_api_Res) (sz := 6) (he := fun _ => rfl) 0 rfl (api_Res.mk 0 false 0 false 0 0) rfl
  have hst := hst.shutP0 (enc := enc_api_Res) (sz := 6) (he := fun _ => rfl) 1 rfl (api_Res.mk 0 false 0 false 0 0) rfl
  obtain rfl := inj ho61
  exact QW.meet (fun a ha => ⟨S84, ha.ag, hst.keep [2, 0, 1] rfl⟩)
 rintro a w1 ⟨S59, ha, hst⟩
 refine CW.go ?_ ha
 obtain ⟨o523, ho524, hF⟩ := bs hF
 refine CW.cutK (fun a w1 => ∃ (S522 : List Nat), Rep 165 [(0, Pt b1), (1, I p1), (2, U p2), (3, U p3), (8, Pt b4), (9, .bool r24.1.Found), (10, Pt b31)] a ∧ St w (fp [itI R_t109 [Pt b1] S0 p0]) w1 [itI R_t109 [Pt b1] S522 o523.1, itI R_t171 [Pt b4] ([b4]) (api_Res.mk 0 false 0 false 0 0), itI R_t171 [Pt b31] ([b31]) o523.2]) ?_ ?_
 ·refine br (o60) ho524 (fun ho524 hc525 => ?_) (fun ho524 hc525 => ?_)
  ·refine rg ?_
   refine pu 1 [(11, I 0)] (nx (CW.seq (rg ?_)))
   refine pu 1 [(12, I 0)] (nx ?_)
   obtain ⟨o715, ho716, ho524⟩ := bs ho524
   refine CW.cutK (fun a w1 => ∃ (S714 : List Nat), Rep 165 [(0, Pt b1), (1, I p1), (2, U p2), (3, U p3), (8, Pt b4), (9, .bool r24.1.Found), (10, Pt b31), (11, I o715)] a ∧ St w (fp [itI R_t109 [Pt b1] S0 p0]) w1 [itI R_t109 [Pt b1] S714 (tappetref14_LRU.mk r24.2 p0.Keys p0.When p0.Clock), itI R_t171 [Pt b4] ([b4]) (api_Res.mk 0 false 0 false 0 0), itI R_t171 [Pt b31] ([b31]) (api_Res.mk 0 false 0 false 0 0)]) ?_ ?_
   ·refine CW.block ?_
    refine CW.loop (fun n a w1 => ∃ (s857 : Int × Int) (S858 : List Nat), Rep 165 [(0, Pt b1), (1, I p1), (2, U p2), (3, U p3), (8, Pt b4), (9, .bool r24.1.Found), (10, Pt b31), (11, I s857.1), (12, I s857.2)] a ∧ St w (fp [itI R_t109 [Pt b1] S0 p0]) w1 [itI R_t109 [Pt b1] S858 (tappetref14_LRU.mk r24.2 p0.Keys p0.When p0.Clock), itI R_t171 [Pt b4] ([b4]) (api_Res.mk 0 false 0 false 0 0), itI R_t171 [Pt b31] ([b31]) (api_Res.mk 0 false 0 false 0 0)] ∧ loop (tappetref14_LRU_Do_l1 p0 r24) n s857 = some o715) fu (fun a ha => ⟨(0, 0), S59, ha.ag, hst.keep [0, 1, 2] rfl, ho716⟩) ?_
    rintro n855 a w1 ⟨s857, S858, ha, hst, hl856⟩
    rcases n855 with _ | n855
    ·exact (loop_zero hl856).elim
    refine CW.go ?_ ha
    refine CW.seq (CW.seq ?_)
    obtain ⟨v859, S860, v861, S862, v863, S864, hst⟩ := hst.openQ3 0 rfl rfl rfl rfl
    have hst := hst.toRow1 4 rfl
    have hst := hst.toRow1 5 rfl
    obtain ⟨b865, rfl⟩ := hst.fptr 3 rfl
    obtain ⟨l866, a867, c868, rfl⟩ := hst.len 4 rfl
    obtain ⟨l869, a870, c871, rfl⟩ := hst.len 5 rfl
    have hst : St _ _ _ [blkI b1 125 [Pt b865, .slice a867 ((tappetref14_LRU.mk r24.2 p0.Keys p0.When p0.Clock).Keys).length c868, .slice a870 ((tappetref14_LRU.mk r24.2 p0.Keys p0.When p0.Clock).When).length c871, I (tappetref14_LRU.mk r24.2 p0.Keys p0.When p0.Clock).Clock], _, _, _, _, _] := hst
    refine CW.region ?_
    refine pu 4 [(49, I s857.2), (52, .pointer (some ⟨b1, 1, none⟩))] ?_
    refine OW.ld rfl rfl rfl rfl (by kernel_rfl) (hst.blk 0 rfl rfl) ?_
    refine pu 2 [(55, .bool (decide (s857.2 < (((tappetref14_LRU.mk r24.2 p0.Keys p0.When p0.Clock).Keys).length : Int))))] (nx ?_)
    refine br (decide (s857.2 < (((tappetref14_LRU.mk r24.2 p0.Keys p0.When p0.Clock).Keys).length : Int))) hl856 (fun hl856 hc872 => ?_) (fun hl856 hc872 => ?_)
    ·refine CW.skip (QW.next (CW.seq (CW.block (CW.seq ?_))))
     refine CW.still (by kernel_rfl) (by kernel_rfl) ?_
     intro w887 hch888
     have hst := hst.same hch888
     refine OS.pure 3 [(60, .pointer (some ⟨b1, 2, none⟩))] rfl (by kernel_rfl) ?_
     refine OS.ld rfl rfl rfl rfl rfl (by kernel_rfl) (hst.blk 0 rfl rfl) ?_
     refine OS.pure 1 [(62, I s857.2)] rfl (by kernel_rfl) ?_
     obtain ⟨x889, hx890, hl856⟩ := bs hl856
     obtain ⟨g892, o893, c894, hv891⟩ := hst.rowv 5 rfl hx890
     refine OS.idx 3 1 rfl rfl rfl rfl rfl hv891 rfl (idx_some hx890).1 (idx_some hx890).2.1 (by kernel_rfl) (by kernel_rfl) ?_
     refine OS.ld rfl rfl rfl rfl rfl (by kernel_rfl) (hst.rowc 5 rfl (fun _ => rfl) hx890 hv891 0 _ rfl) ?_
     refine OS.pure 3 [(67, .pointer (some ⟨b1, 2, none⟩))] rfl (by kernel_rfl) ?_
     refine OS.ld rfl rfl rfl rfl rfl (by kernel_rfl) (hst.blk 0 rfl rfl) ?_
     refine OS.pure 1 [(69, I s857.1)] rfl (by kernel_rfl) ?_
     obtain ⟨x895, hx896, hl856⟩ := bs hl856
     obtain ⟨g898, o899, c900, hv897⟩ := hst.rowv 5 rfl hx896
     refine OS.idx 3 1 rfl rfl rfl rfl rfl hv897 rfl (idx_some hx896).1 (idx_some hx896).2.1 (by kernel_rfl) (by kernel_rfl) ?_
     refine OS.ld rfl rfl rfl rfl rfl (by kernel_rfl) (hst.rowc 5 rfl (fun _ => rfl) hx896 hv897 0 _ rfl) ?_
     refine OS.pure 1 [(72, .bool (decide (x889 < x895)))] rfl (by kernel_rfl) ?_
     refine OS.fin rfl (QW.next ?_)
     refine br (decide (x889 < x895)) hl856 (fun hl856 hc901 => ?_) (fun hl856 hc901 => ?_)
     ·refine CW.region ?_
      refine pu 2 [(11, I s857.2)] (OW.nil rfl (QW.block_normal (QW.next (CW.region ?_))))
      refine pu 3 [(12, I (w64 (s857.2 + 1)))] (OW.nil rfl ?_)
      have hst := hst.toIt 4 rfl (fun _ => rfl) (by decide)
      have hst := hst.toIt 5 rfl (fun _ => rfl) (by decide)
      obtain ⟨S902, hst⟩ := hst.shutP3 R_t125 rfl 0 3 4 5 [1, 2] rfl rfl rfl rfl rfl (tappetref14_LRU.mk r24.2 p0.Keys p0.When p0.Clock) rfl rfl
      exact QW.meet (fun a ha => ⟨n855, Nat.lt_succ_self _, (s857.2, w64 (s857.2 + 1)), S902, ha.ag, hst.keep [2, 0, 1] rfl, hl856⟩)
     refine CW.skip (QW.block_normal (QW.next (CW.region ?_)))
     refine pu 3 [(12, I (w64 (s857.2 + 1)))] (OW.nil rfl ?_)
     have hst := hst.toIt 4 rfl (fun _ => rfl) (by decide)
     have hst := hst.toIt 5 rfl (fun _ => rfl) (by decide)
     obtain ⟨S903, hst⟩ := hst.shutP3 R_t125 rfl 0 3 4 5 [1, 2] rfl rfl rfl rfl rfl (tappetref14_LRU.mk r24.2 p0.Keys p0.When p0.Clock) rfl rfl
     exact QW.meet (fun a ha => ⟨n855, Nat.lt_succ_self _, (s857.1, w64 (s857.2 + 1)), S903, ha.ag, hst.keep [2, 0, 1] rfl, hl856⟩)
    refine CW.exit (QW.then_exit (QW.then_exit ?_))
    refine QW.block_here ?_
    have hst := hst.toIt 4 rfl (fun _ => rfl) (by decide)
    have hst := hst.toIt 5 rfl (fun _ => rfl) (by decide)
    obtain ⟨S904, hst⟩ := hst.shutP3 R_t125 rfl 0 3 4 5 [1, 2] rfl rfl rfl rfl rfl (tappetref14_LRU.mk r24.2 p0.Keys p0.When p0.Clock) rfl rfl
    obtain rfl := inj hl856
    exact QW.meet (fun a ha => ⟨S904, ha.ag, hst.keep [2, 0, 1] rfl⟩)
   rintro a w1 ⟨S714, ha, hst⟩
   refine CW.go ?_ ha
   refine CW.seq ?_
   have hst := hst.openQ0 2 rfl
   refine CW.region ?_
   refine pu 1 [(74, .pointer (some ⟨b31, 3, none⟩))] ?_
   refine OW.stB hst 2 rfl rfl rfl rfl rfl (by kernel_rfl) rfl rfl [I (api_Res.mk 0 false 0 false 0 0).E, .bool (api_Res.mk 0 false 0 false 0 0).Found, U (api_Res.mk 0 false 0 false 0 0).Val, .bool true, U (api_Res.mk 0 false 0 false 0 0).OutKey, U (api_Res.mk 0 false 0 false 0 0).OutVal] rfl ?_
   intro w906 hst
   refine nx (CW.seq ?_)
   obtain ⟨v907, S908, v909, S910, v911, S912, hst⟩ := hst.openQ3 0 rfl rfl rfl rfl
   have hst := hst.toRow1 4 rfl
   have hst := hst.toRow1 5 rfl
   obtain ⟨b913, rfl⟩ := hst.fptr 3 rfl
   obtain ⟨l914, a915, c916, rfl⟩ := hst.len 4 rfl
   obtain ⟨l917, a918, c919, rfl⟩ := hst.len 5 rfl
   have hst : St _ _ _ [blkI b1 125 [Pt b913, .slice a915 ((tappetref14_LRU.mk r24.2 p0.Keys p0.When p0.Clock).Keys).length c916, .slice a918 ((tappetref14_LRU.mk r24.2 p0.Keys p0.When p0.Clock).When).length c919, I (tappetref14_LRU.mk r24.2 p0.Keys p0.When p0.Clock).Clock], _, _, _, _, _] := hst
   refine CW.region ?_
   refine pu 3 [(77, .pointer (some ⟨b1, 1, none⟩))] ?_
   refine OW.ld rfl rfl rfl rfl (by kernel_rfl) (hst.blk 0 rfl rfl) ?_
   refine pu 1 [(79, I o715)] ?_
   obtain ⟨x927, hx928, ho524⟩ := bs ho524
   obtain ⟨g930, o931, c932, hv929⟩ := hst.rowv 4 rfl hx928
   refine OW.idx 42 1 rfl rfl rfl rfl hv929 rfl (idx_some hx928).1 (idx_some hx928).2.1 (by kernel_rfl) (by kernel_rfl) ?_
   refine OW.ld rfl rfl rfl rfl (by kernel_rfl) (hst.rowc 4 rfl (fun _ => rfl) hx928 hv929 0 _ rfl) ?_
   refine pu 1 [(82, .pointer (some ⟨b31, 4, none⟩))] ?_
   refine OW.stB hst 2 rfl rfl rfl rfl rfl (by kernel_rfl) rfl rfl [I (api_Res.mk 0 false 0 false 0 0).E, .bool (api_Res.mk 0 false 0 false 0 0).Found, U (api_Res.mk 0 false 0 false 0 0).Val, .bool true, U x927, U (api_Res.mk 0 false 0 false 0 0).OutVal] rfl ?_
   intro w933 hst
   refine nx (CW.seq ?_)
   refine CW.tail 6 (by kernel_rfl) (by kernel_rfl) ?_
   intro w942 hch943
   have hst := hst.same hch943
   refine OS.pure 3 [(85, Pt b1)] rfl (by kernel_rfl) ?_
   refine OS.ld rfl rfl rfl rfl rfl (by kernel_rfl) (hst.blk 0 rfl rfl) ?_
   refine OS.pure 1 [(87, .pointer (some ⟨b31, 4, none⟩))] rfl (by kernel_rfl) ?_
   refine OS.ld rfl rfl rfl rfl rfl (by kernel_rfl) (hst.blk 2 rfl rfl) ?_
   refine OS.on ?_
   obtain ⟨r944, hr945, ho524⟩ := bs ho524
   refine OW.fn rfl rfl rfl rfl (by kernel_rfl) (tappetref13_Book_Do_ok _ fu (Pt b913) S908 (tappetref14_LRU.mk r24.2 p0.Keys p0.When p0.Clock).B 3 x927 0 r944 hr945 (hst.part [3] rfl)) ?_
   rintro e w946 ⟨S948, rfl, hst947⟩
   refine ⟨_, rfl, ?_⟩
   have hst := hst.join (idx := [3]) (rest := [0, 1, 2, 4, 5]) rfl hst947
   refine pu 2 [(90, U r944.1.Val), (91, .pointer (some ⟨b31, 5, none⟩))] ?_
   refine OW.stB hst 3 rfl rfl rfl rfl rfl (by kernel_rfl) rfl rfl [I (api_Res.mk 0 false 0 false 0 0).E, .bool (api_Res.mk 0 false 0 false 0 0).Found, U (api_Res.mk 0 false 0 false 0 0).Val, .bool true, U x927, U r944.1.Val] rfl ?_
   intro w949 hst
   refine nx (CW.region ?_)
   refine pu 2 [(92, Pt b1), (93, .pointer (some ⟨b31, 4, none⟩))] ?_
   refine OW.ld rfl rfl rfl rfl (by kernel_rfl) (hst.blk 3 rfl rfl) ?_
   have hst := hst.toIt 4 rfl (fun _ => rfl) (by decide)
   have hst := hst.toIt 5 rfl (fun _ => rfl) (by decide)
   obtain ⟨S956, hst⟩ := hst.shutP3 R_t125 rfl 1 0 4 5 [2, 3] rfl rfl rfl rfl rfl (tappetref14_LRU.mk r944.2 (tappetref14_LRU.mk r24.2 p0.Keys p0.When p0.Clock).Keys (tappetref14_LRU.mk r24.2 p0.Keys p0.When p0.Clock).When (tappetref14_LRU.mk r24.2 p0.Keys p0.When p0.Clock).Clock) rfl rfl
   obtain ⟨r957, hr958, ho524⟩ := bs ho524
   refine OW.fn rfl rfl rfl rfl (by kernel_rfl) (tappetref14_LRU_forget_ok _ fu (Pt b1) S956 (tappetref14_LRU.mk r944.2 (tappetref14_LRU.mk r24.2 p0.Keys p0.When p0.Clock).Keys (tappetref14_LRU.mk r24.2 p0.Keys p0.When p0.Clock).When (tappetref14_LRU.mk r24.2 p0.Keys p0.When p0.Clock).Clock) x927 r957 hr958 (hst.part [2] rfl)) ?_
   rintro e w959 ⟨S961, rfl, hst960⟩
   refine ⟨_, rfl, ?_⟩
   have hst := hst.join (idx := [2]) (rest := [0, 1]) rfl hst960
   refine OW.nil rfl ?_
   have hst := hst.shutP0 (enc := enc_api_Res) (sz := 6) (he := fun _ => rfl) 2 rfl (api_Res.mk (api_Res.mk 0 false 0 false 0 0).E (api_Res.mk 0 false 0 false 0 0).Found (api_Res.mk 0 false 0 false 0 0).Val true x927 r944.1.Val) rfl
   obtain rfl := inj ho524
   exact QW.meet (fun a ha => ⟨S961, ha.ag, hst.keep [0, 1, 2] rfl⟩)
  refine CW.skip ?_
  obtain rfl := inj ho524
  exact QW.meet (fun a ha => ⟨S59, ha.ag, hst.keep [0, 1, 2] rfl⟩)
 rintro a w1 ⟨S522, ha, hst⟩
 refine CW.go ?_ ha
 refine CW.seq ?_
 obtain ⟨v962, S963, v964, S965, v966, S967, hst⟩ := hst.openQ3 0 rfl rfl rfl rfl
 have hst := hst.toRow1 4 rfl
 have hst := hst.toRow1 5 rfl
 obtain ⟨b968, rfl⟩ := hst.fptr 3 rfl
 obtain ⟨l969, a970, c971, rfl⟩ := hst.len 4 rfl
 obtain ⟨l972, a973, c974, rfl⟩ := hst.len 5 rfl
 have hst : St _ _ _ [blkI b1 125 [Pt b968, .slice a970 (o523.1.Keys).length c971, .slice a973 (o523.1.When).length c974, I o523.1.Clock], _, _, _, _, _] := hst
 refine CW.region ?_
 refine pu 3 [(98, Pt b1)] ?_
 refine OW.ld rfl rfl rfl rfl (by kernel_rfl) (hst.blk 0 rfl rfl) ?_
 refine pu 3 [(100, I p1), (101, U p2), (102, U p3)] ?_
 obtain ⟨r983, hr984, hF⟩ := bs hF
 refine OW.fn rfl rfl rfl rfl (by kernel_rfl) (tappetref13_Book_Do_ok _ fu (Pt b968) S963 o523.1.B p1 p2 p3 r983 hr984 (hst.part [3] rfl)) ?_
 rintro e w985 ⟨S987, rfl, hst986⟩
 refine ⟨_, rfl, ?_⟩
 have hst := hst.join (idx := [3]) (rest := [0, 1, 2, 4, 5]) rfl hst986
 refine OW.alloc hst rfl rfl rfl [I 0, .bool false, U 0, .bool false, U 0, U 0] (by kernel_rfl) ?_
 intro b988 w989 hst
 refine OW.stB hst 6 rfl rfl rfl rfl rfl (by kernel_rfl) rfl rfl [I r983.1.E, .bool r983.1.Found, U r983.1.Val, .bool r983.1.Out, U r983.1.OutKey, U r983.1.OutVal] rfl ?_
 intro w990 hst
 refine nx (CW.seq ?_)
 have hst := hst.openQ0 3 rfl
 refine CW.region ?_
 refine pu 1 [(104, .pointer (some ⟨b31, 3, none⟩))] ?_
 refine OW.ld rfl rfl rfl rfl (by kernel_rfl) (hst.blk 3 rfl rfl) ?_
 refine pu 1 [(106, .pointer (some ⟨b988, 3, none⟩))] ?_
 refine OW.stB hst 6 rfl rfl rfl rfl rfl (by kernel_rfl) rfl rfl [I r983.1.E, .bool r983.1.Found, U r983.1.Val, .bool o523.2.Out, U r983.1.OutKey, U r983.1.OutVal] rfl ?_
 intro w992 hst
 refine nx (rg ?_)
 refine pu 1 [(107, .pointer (some ⟨b31, 4, none⟩))] ?_
 refine OW.ld rfl rfl rfl rfl (by kernel_rfl) (hst.blk 3 rfl rfl) ?_
 refine pu 1 [(109, .pointer (some ⟨b988, 4, none⟩))] ?_
 refine OW.stB hst 6 rfl rfl rfl rfl rfl (by kernel_rfl) rfl rfl [I r983.1.E, .bool r983.1.Found, U r983.1.Val, .bool o523.2.Out, U o523.2.OutKey, U r983.1.OutVal] rfl ?_
 intro w994 hst
 refine nx (rg ?_)
 refine pu 1 [(110, .pointer (some ⟨b31, 5, none⟩))] ?_
 refine OW.ld rfl rfl rfl rfl (by kernel_rfl) (hst.blk 3 rfl rfl) ?_
 refine pu 1 [(112, .pointer (some ⟨b988, 5, none⟩))] ?_
 refine OW.stB hst 6 rfl rfl rfl rfl rfl (by kernel_rfl) rfl rfl [I r983.1.E, .bool r983.1.Found, U r983.1.Val, .bool o523.2.Out, U o523.2.OutKey, U o523.2.OutVal] rfl ?_
 intro w996 hst
 refine nx (CW.seq (CW.seq ?_))
 refine CW.cutK (fun a w1 => Rep 165 [(0, Pt b1), (1, I p1), (2, U p2), (8, Pt b4), (13, Pt b988), (125, .bool (((p1 == 2) || (p1 == 4)) || ((p1 == 0) && r24.1.Found)))] a ∧ St w (fp [itI R_t109 [Pt b1] S0 p0]) w1 [itI R_t106 [Pt b968] S987 r983.2, blkI b1 125 [Pt b968, .slice a970 (o523.1.Keys).length c971, .slice a973 (o523.1.When).length c974, I o523.1.Clock], itI R_t171 [Pt b4] ([b4]) (api_Res.mk 0 false 0 false 0 0), rowI (.slice a970 (o523.1.Keys).length c971) 42 (encInt .u64) 1 o523.1.Keys, rowI (.slice a973 (o523.1.When).length c974) 3 (encInt .i64) 1 o523.1.When, blkI b988 46 [I r983.1.E, .bool r983.1.Found, U r983.1.Val, .bool o523.2.Out, U o523.2.OutKey, U o523.2.OutVal]]) ?_ ?_
 ·refine CW.region ?_
  refine pu 3 [(115, .bool (p1 == 2))] ?_
  refine OW.split 115 rfl (fun hc997 => ?_) (fun hc997 => ?_)
  ·refine pu 10 [(125, .bool true)] (OW.nil rfl ?_)
   refine QW.say 125 (v := .bool (((p1 == 2) || (p1 == 4)) || ((p1 == 0) && r24.1.Found))) rfl (by first | (rw [hc997]; done) | (rw [hc997]; rfl) | simp [hc997]) ?_
   exact QW.meet (fun a ha => ⟨ha.ag, hst.keep [0, 1, 2, 4, 5, 6] rfl⟩)
  refine pu 4 [(119, .bool (p1 == 4))] ?_
  refine OW.split 119 rfl (fun hc998 => ?_) (fun hc998 => ?_)
  ·refine pu 6 [(125, .bool true)] (OW.nil rfl ?_)
   refine QW.say 125 (v := .bool (((p1 == 2) || (p1 == 4)) || ((p1 == 0) && r24.1.Found))) rfl (by first | (rw [hc997, hc998]; done) | (rw [hc997, hc998]; rfl) | simp [hc997, hc998]) ?_
   exact QW.meet (fun a ha => ⟨ha.ag, hst.keep [0, 1, 2, 4, 5, 6] rfl⟩)
  refine pu 3 [(122, .bool (p1 == 0))] ?_
  refine OW.split 122 rfl (fun hc999 => ?_) (fun hc999 => ?_)
  ·refine pu 3 [(125, .bool r24.1.Found)] (OW.nil rfl ?_)
   refine QW.say 125 (v := .bool (((p1 == 2) || (p1 == 4)) || ((p1 == 0) && r24.1.Found))) rfl (by first | (rw [hc997, hc998, hc999]; done) | (rw [hc997, hc998, hc999]; rfl) | simp [hc997, hc998, hc999]) ?_
   exact QW.meet (fun a ha => ⟨ha.ag, hst.keep [0, 1, 2, 4, 5, 6] rfl⟩)
  refine pu 3 [(125, .bool false)] (OW.nil rfl ?_)
  refine QW.say 125 (v := .bool (((p1 == 2) || (p1 == 4)) || ((p1 == 0) && r24.1.Found))) rfl (by first | (rw [hc997, hc998, hc999]; done) | (rw [hc997, hc998, hc999]; rfl) | simp [hc997, hc998, hc999]) ?_
  exact QW.meet (fun a ha => ⟨ha.ag, hst.keep [0, 1, 2, 4, 5, 6] rfl⟩)
 rintro a w1 ⟨ha, hst⟩
 refine CW.go ?_ ha
 obtain ⟨o1075, ho1076, hF⟩ := bs hF
 refine CW.cutK (fun a w1 => ∃ (S1074 : List Nat), Rep 165 [(0, Pt b1), (1, I p1), (2, U p2), (8, Pt b4), (13, Pt b988)] a ∧ St w (fp [itI R_t109 [Pt b1] S0 p0]) w1 [itI R_t109 [Pt b1] S1074 o1075, itI R_t171 [Pt b4] ([b4]) (api_Res.mk 0 false 0 false 0 0), itI R_t171 [Pt b988] ([b988]) (api_Res.mk r983.1.E r983.1.Found r983.1.Val o523.2.Out o523.2.OutKey o523.2.OutVal)]) ?_ ?_
 ·refine br ((((p1 == 2) || (p1 == 4)) || ((p1 == 0) && r24.1.Found))) ho1076 (fun ho1076 hc1077 => ?_) (fun ho1076 hc1077 => ?_)
  ·refine rg ?_
   refine pu 2 [(126, Pt b1), (127, U p2)] ?_
   have hst := hst.toIt 3 rfl (fun _ => rfl) (by decide)
   have hst := hst.toIt 4 rfl (fun _ => rfl) (by decide)
   obtain ⟨S1084, hst⟩ := hst.shutP3 R_t125 rfl 1 0 3 4 [2, 5] rfl rfl rfl rfl rfl (tappetref14_LRU.mk r983.2 o523.1.Keys o523.1.When o523.1.Clock) rfl rfl
   obtain ⟨r1085, hr1086, ho1076⟩ := bs ho1076
   refine OW.fn rfl rfl rfl rfl (by kernel_rfl) (tappetref14_LRU_forget_ok _ fu (Pt b1) S1084 (tappetref14_LRU.mk r983.2 o523.1.Keys o523.1.When o523.1.Clock) p2 r1085 hr1086 (hst.part [2] rfl)) ?_
   rintro e w1087 ⟨S1089, rfl, hst1088⟩
   refine ⟨_, rfl, ?_⟩
   have hst := hst.join (idx := [2]) (rest := [0, 1]) rfl hst1088
   refine nx (CW.seq ?_)
   obtain ⟨v1090, S1091, v1092, S1093, v1094, S1095, hst⟩ := hst.openQ3 0 rfl rfl rfl rfl
   have hst := hst.toRow1 4 rfl
   have hst := hst.toRow1 5 rfl
   obtain ⟨b1096, rfl⟩ := hst.fptr 3 rfl
   obtain ⟨l1097, a1098, c1099, rfl⟩ := hst.len 4 rfl
   obtain ⟨l1100, a1101, c1102, rfl⟩ := hst.len 5 rfl
   have hst : St _ _ _ [blkI b1 125 [Pt b1096, .slice a1098 (r1085.Keys).length c1099, .slice a1101 (r1085.When).length c1102, I r1085.Clock], _, _, _, _, _] := hst
   refine CW.region ?_
   refine pu 3 [(129, Pt b1), (131, .pointer (some ⟨b1, 3, none⟩))] ?_
   refine OW.ld rfl rfl rfl rfl (by kernel_rfl) (hst.blk 0 rfl rfl) ?_
   refine pu 3 [(133, I (w64 (r1085.Clock + 1))), (135, .pointer (some ⟨b1, 3, none⟩))] ?_
   refine OW.stB hst 0 rfl rfl rfl rfl rfl (by kernel_rfl) rfl rfl [Pt b1096, .slice a1098 (r1085.Keys).length c1099, .slice a1101 (r1085.When).length c1102, I (w64 (r1085.Clock + 1))] rfl ?_
   intro w1104 hst
   refine nx (rg ?_)
   refine pu 4 [(136, Pt b1), (139, .pointer (some ⟨b1, 1, none⟩))] ?_
   refine OW.ld rfl rfl rfl rfl (by kernel_rfl) (hst.blk 0 rfl rfl) ?_
   refine pu 1 [(141, U p2)] ?_
   refine OW.row (α := Int) (e := 42) (enc := encInt .u64) (sz := 1) hst rfl rfl rfl [p2] rfl (fun _ => rfl) rfl rfl (fun _ => by kernel_rfl) ?_
   intro g1115 w1116 hst
   obtain ⟨u1117, hr1118, ho1076⟩ := bs ho1076
   refine OW.app hst 4 rfl (fun _ => rfl) (fun _ => rfl) rfl rfl rfl rfl rfl rfl (by kernel_rfl) el42 (hst.rd 6 rfl (fun _ => rfl) [] rfl (hst.len 6 rfl).1) (room_le hr1118) ?_
   intro v1119 w1120 hst
   obtain ⟨l1121, a1122, c1123, rfl⟩ := hst.len 4 rfl
   refine pu 2 [(145, .pointer (some ⟨b1, 1, none⟩))] ?_
   refine OW.stB hst 0 rfl rfl rfl rfl rfl (by kernel_rfl) rfl rfl [Pt b1096, .slice a1122 ((r1085.Keys ++ [p2])).length c1123, .slice a1101 (r1085.When).length c1102, I (w64 (r1085.Clock + 1))] rfl ?_
   intro w1124 hst
   refine nx ?_
   refine CW.plan (by kernel_rfl) ?_
   intro w1137 hch1138
   have hst := hst.same hch1138
   refine OA.pure [0, 1, 2, 3] [(146, Pt b1), (149, .pointer (some ⟨b1, 2, none⟩))] (by kernel_rfl) ?_
   refine OA.ld (i := 4) rfl (by kernel_rfl) rfl rfl rfl (by kernel_rfl) (hst.blk 0 rfl rfl) ?_
   refine OA.pure [5, 6, 7] [(153, .pointer (some ⟨b1, 3, none⟩))] (by kernel_rfl) ?_
   refine OA.ld (i := 8) rfl (by kernel_rfl) rfl rfl rfl (by kernel_rfl) (hst.blk 0 rfl rfl) ?_
   refine OA.act (i := 9) [4] (by kernel_rfl) rfl rfl (by kernel_rfl) (by kernel_rfl) ?_
   refine OW.row (α := Int) (e := 3) (enc := encInt .i64) (sz := 1) hst rfl rfl rfl [w64 (r1085.Clock + 1)] rfl (fun _ => rfl) rfl rfl (fun _ => by kernel_rfl) ?_
   intro g1139 w1140 hst
   refine OA.next ⟨(hst.blk 0 rfl rfl), trivial⟩ ?_
   refine OA.act (i := 10) [] (by kernel_rfl) rfl rfl (by kernel_rfl) (by kernel_rfl) ?_
   obtain ⟨u1141, hr1142, ho1076⟩ := bs ho1076
   refine OW.app hst 5 rfl (fun _ => rfl) (fun _ => rfl) rfl rfl rfl rfl rfl rfl (by kernel_rfl) el3 (hst.rd 7 rfl (fun _ => rfl) [] rfl (hst.len 7 rfl).1) (room_le hr1142) ?_
   intro v1143 w1144 hst
   obtain ⟨l1145, a1146, c1147, rfl⟩ := hst.len 5 rfl
   refine OA.next trivial ?_
   refine OA.pure [11, 12] [(158, .pointer (some ⟨b1, 2, none⟩))] (by kernel_rfl) ?_
   refine OA.act (i := 13) [] (by kernel_rfl) rfl rfl (by kernel_rfl) (by kernel_rfl) ?_
   refine OW.stB hst 0 rfl rfl rfl rfl rfl (by kernel_rfl) rfl rfl [Pt b1096, .slice a1122 ((r1085.Keys ++ [p2])).length c1123, .slice a1146 ((r1085.When ++ [w64 (r1085.Clock + 1)])).length c1147, I (w64 (r1085.Clock + 1))] rfl ?_
   intro w1148 hst
   refine OA.next trivial ?_
   refine OA.fin (by kernel_rfl) (by kernel_rfl) ?_
   have hst := hst.toIt 4 rfl (fun _ => rfl) (by decide)
   have hst := hst.toIt 5 rfl (fun _ => rfl) (by decide)
   obtain ⟨S1149, hst⟩ := hst.shutP3 R_t125 rfl 0 3 4 5 [1, 2, 6, 7] rfl rfl rfl rfl rfl (tappetref14_LRU.mk r1085.B (r1085.Keys ++ [p2]) (r1085.When ++ [w64 (r1085.Clock + 1)]) (w64 (r1085.Clock + 1))) rfl rfl
   have hst := hst.shutP0 (enc := enc_api_Res) (sz := 6) (he := fun _ => rfl) 1 rfl (api_Res.mk r983.1.E r983.1.Found r983.1.Val o523.2.Out o523.2.OutKey o523.2.OutVal) rfl
   obtain rfl := inj ho1076
   exact QW.meet (fun a ha => ⟨S1149, ha.ag, hst.keep [4, 0, 1] rfl⟩)
  refine CW.skip ?_
  have hst := hst.toIt 3 rfl (fun _ => rfl) (by decide)
  have hst := hst.toIt 4 rfl (fun _ => rfl) (by decide)
  obtain ⟨S1150, hst⟩ := hst.shutP3 R_t125 rfl 1 0 3 4 [2, 5] rfl rfl rfl rfl rfl (tappetref14_LRU.mk r983.2 o523.1.Keys o523.1.When o523.1.Clock) rfl rfl
  have hst := hst.shutP0 (enc := enc_api_Res) (sz := 6) (he := fun _ => rfl) 1 rfl (api_Res.mk r983.1.E r983.1.Found r983.1.Val o523.2.Out o523.2.OutKey o523.2.OutVal) rfl
  obtain rfl := inj ho1076
  exact QW.meet (fun a ha => ⟨S1150, ha.ag, hst.keep [2, 0, 1] rfl⟩)
 rintro a w1 ⟨S1074, ha, hst⟩
 refine CW.go ?_ ha
 refine CW.seq (rg ?_)
 refine pu 2 [(160, .bool (p1 == 3))] (nx ?_)
 refine br ((p1 == 3)) hF (fun hF hc1151 => ?_) (fun hF hc1151 => ?_)
 ·refine CW.region ?_
  refine pu 2 [(161, Pt b1), (162, U p2)] ?_
  obtain ⟨r1157, hr1158, hF⟩ := bs hF
  refine OW.fn rfl rfl rfl rfl (by kernel_rfl) (tappetref14_LRU_forget_ok _ fu (Pt b1) S1074 o1075 p2 r1157 hr1158 (hst.part [0] rfl)) ?_
  rintro e w1159 ⟨S1161, rfl, hst1160⟩
  refine ⟨_, rfl, ?_⟩
  have hst := hst.join (idx := [0]) (rest := [1, 2]) rfl hst1160
  refine nx (CW.seq ?_)
  have hst := hst.openQ0 2 rfl
  have hst := hst.openQ0 1 rfl
  refine CW.region ?_
  refine OW.ldN (cs := [I (api_Res.mk r983.1.E r983.1.Found r983.1.Val o523.2.Out o523.2.OutKey o523.2.OutVal).E, .bool (api_Res.mk r983.1.E r983.1.Found r983.1.Val o523.2.Out o523.2.OutKey o523.2.OutVal).Found, U (api_Res.mk r983.1.E r983.1.Found r983.1.Val o523.2.Out o523.2.OutKey o523.2.OutVal).Val, .bool (api_Res.mk r983.1.E r983.1.Found r983.1.Val o523.2.Out o523.2.OutKey o523.2.OutVal).Out, U (api_Res.mk r983.1.E r983.1.Found r983.1.Val o523.2.Out o523.2.OutKey o523.2.OutVal).OutKey, U (api_Res.mk r983.1.E r983.1.Found r983.1.Val o523.2.Out o523.2.OutKey o523.2.OutVal).OutVal]) rfl rfl rfl rfl (by kernel_rfl) (by kernel_rfl) (hst.blkN 2 rfl 0 6) ?_
  refine OW.stB hst 1 rfl rfl rfl rfl rfl (by kernel_rfl) rfl rfl [I (api_Res.mk r983.1.E r983.1.Found r983.1.Val o523.2.Out o523.2.OutKey o523.2.OutVal).E, .bool (api_Res.mk r983.1.E r983.1.Found r983.1.Val o523.2.Out o523.2.OutKey o523.2.OutVal).Found, U (api_Res.mk r983.1.E r983.1.Found r983.1.Val o523.2.Out o523.2.OutKey o523.2.OutVal).Val, .bool (api_Res.mk r983.1.E r983.1.Found r983.1.Val o523.2.Out o523.2.OutKey o523.2.OutVal).Out, U (api_Res.mk r983.1.E r983.1.Found r983.1.Val o523.2.Out o523.2.OutKey o523.2.OutVal).OutKey, U (api_Res.mk r983.1.E r983.1.Found r983.1.Val o523.2.Out o523.2.OutKey o523.2.OutVal).OutVal] rfl ?_
  intro w1163 hst
  refine nx (CW.ret ?_)
  obtain rfl := inj hF
  refine QW.ret_c rfl rfl (run_loadN (cs := [I (api_Res.mk r983.1.E r983.1.Found r983.1.Val o523.2.Out o523.2.OutKey o523.2.OutVal).E, .bool (api_Res.mk r983.1.E r983.1.Found r983.1.Val o523.2.Out o523.2.OutKey o523.2.OutVal).Found, U (api_Res.mk r983.1.E r983.1.Found r983.1.Val o523.2.Out o523.2.OutKey o523.2.OutVal).Val, .bool (api_Res.mk r983.1.E r983.1.Found r983.1.Val o523.2.Out o523.2.OutKey o523.2.OutVal).Out, U (api_Res.mk r983.1.E r983.1.Found r983.1.Val o523.2.Out o523.2.OutKey o523.2.OutVal).OutKey, U (api_Res.mk r983.1.E r983.1.Found r983.1.Val o523.2.Out o523.2.OutKey o523.2.OutVal).OutVal]) (by kernel_rfl) (by kernel_rfl) (hst.blkN 1 rfl 0 6)) ?_
  exact ⟨S1161, rfl, hst.keep [0] rfl⟩
 refine CW.skip (QW.next (CW.seq ?_))
 have hst := hst.openQ0 2 rfl
 have hst := hst.openQ0 1 rfl
 refine CW.region ?_
 refine OW.ldN (cs := [I (api_Res.mk r983.1.E r983.1.Found r983.1.Val o523.2.Out o523.2.OutKey o523.2.OutVal).E, .bool (api_Res.mk r983.1.E r983.1.Found r983.1.Val o523.2.Out o523.2.OutKey o523.2.OutVal).Found, U (api_Res.mk r983.1.E r983.1.Found r983.1.Val o523.2.Out o523.2.OutKey o523.2.OutVal).Val, .bool (api_Res.mk r983.1.E r983.1.Found r983.1.Val o523.2.Out o523.2.OutKey o523.2.OutVal).Out, U (api_Res.mk r983.1.E r983.1.Found r983.1.Val o523.2.Out o523.2.OutKey o523.2.OutVal).OutKey, U (api_Res.mk r983.1.E r983.1.Found r983.1.Val o523.2.Out o523.2.OutKey o523.2.OutVal).OutVal]) rfl rfl rfl rfl (by kernel_rfl) (by kernel_rfl) (hst.blkN 2 rfl 0 6) ?_
 refine OW.stB hst 1 rfl rfl rfl rfl rfl (by kernel_rfl) rfl rfl [I (api_Res.mk r983.1.E r983.1.Found r983.1.Val o523.2.Out o523.2.OutKey o523.2.OutVal).E, .bool (api_Res.mk r983.1.E r983.1.Found r983.1.Val o523.2.Out o523.2.OutKey o523.2.OutVal).Found, U (api_Res.mk r983.1.E r983.1.Found r983.1.Val o523.2.Out o523.2.OutKey o523.2.OutVal).Val, .bool (api_Res.mk r983.1.E r983.1.Found r983.1.Val o523.2.Out o523.2.OutKey o523.2.OutVal).Out, U (api_Res.mk r983.1.E r983.1.Found r983.1.Val o523.2.Out o523.2.OutKey o523.2.OutVal).OutKey, U (api_Res.mk r983.1.E r983.1.Found r983.1.Val o523.2.Out o523.2.OutKey o523.2.OutVal).OutVal] rfl ?_
 intro w1165 hst
 refine nx (CW.ret ?_)
 obtain rfl := inj hF
 refine QW.ret_c rfl rfl (run_loadN (cs := [I (api_Res.mk r983.1.E r983.1.Found r983.1.Val o523.2.Out o523.2.OutKey o523.2.OutVal).E, .bool (api_Res.mk r983.1.E r983.1.Found r983.1.Val o523.2.Out o523.2.OutKey o523.2.OutVal).Found, U (api_Res.mk r983.1.E r983.1.Found r983.1.Val o523.2.Out o523.2.OutKey o523.2.OutVal).Val, .bool (api_Res.mk r983.1.E r983.1.Found r983.1.Val o523.2.Out o523.2.OutKey o523.2.OutVal).Out, U (api_Res.mk r983.1.E r983.1.Found r983.1.Val o523.2.Out o523.2.OutKey o523.2.OutVal).OutKey, U (api_Res.mk r983.1.E r983.1.Found r983.1.Val o523.2.Out o523.2.OutKey o523.2.OutVal).OutVal]) (by kernel_rfl) (by kernel_rfl) (hst.blkN 1 rfl 0 6)) ?_
 exact ⟨S1074, rfl, hst.keep [0] rfl⟩
theorem tappetref15_Shard_Do_ok (w : World) (fu : Nat) (v0 : Value) (S0 : List Nat) (p0 : tappetref15_Shard) (p1 : Int) (p2 : Int) (p3 : Int) (r : api_Res × tappetref15_Shard) (hF : tappetref15_Shard_Do fu p0 p1 p2 p3 = some r)
    (hst : St w (fp [itI R_t83 [v0] S0 p0]) w [itI R_t83 [v0] S0 p0]) :
    Calls Try.prog 31 [v0, I p1, U p2, U p3].toArray w (fun e w' => ∃ (s0 : List Nat), e = .returned (.agg [I r.1.E, .bool r.1.Found, U r.1.Val, .bool r.1.Out, U r.1.OutKey, U r.1.OutVal].toArray) ∧ St w (fp [itI R_t83 [v0] S0 p0]) w' [itI R_t83 [v0] s0 r.2]) := by
 refine CW.start (N := 30) Try.func31 rfl rfl rfl ?_
 obtain ⟨b1, rfl⟩ := hst.fptr 0 rfl
 refine rg ?_
 refine OW.alloc hst rfl rfl rfl [I 0, .bool false, U 0, .bool false, U 0, U 0] (by kernel_rfl) ?_
 intro b4 w5 hst
 refine nx (CW.seq (CW.seq ?_))
 obtain ⟨v6, S7, v8, S9, hst⟩ := hst.openQ2 0 rfl rfl rfl
 have hst : St _ _ _ [blkI b1 111 [v6, v8], _, _, _] := hst
 refine CW.region ?_
 refine pu 3 [(11, .pointer (some ⟨b1, 1, none⟩))] ?_
 refine OW.ld rfl rfl rfl rfl (by kernel_rfl) (hst.blk 0 rfl rfl) ?_
 rcases he13 : p0.L with _ | y14
 ·have hF := ocase_none hF he13
  obtain rfl := hst.optNone 3 rfl he13
  have hst := hst.keep [0, 1, 2] rfl
  refine pu 1 [(13, .bool false)] (nx (CW.cond_f rfl rfl (CW.skip (QW.next (rg ?_)))))
  refine pu 3 [(24, Pt b1)] ?_
  refine OW.ld rfl rfl rfl rfl (by kernel_rfl) (hst.blk 0 rfl rfl) ?_
  refine pu 3 [(26, I p1), (27, U p2), (28, U p3)] ?_
  obtain ⟨y25, hy26, hF⟩ := bs hF
  have hst := hst.optSome 2 rfl hy26
  obtain ⟨b27, rfl⟩ := hst.fptr 2 rfl
  obtain ⟨r28, hr29, hF⟩ := bs hF
  refine OW.fn rfl rfl rfl rfl (by kernel_rfl) (tappetref13_Book_Do_ok _ fu (Pt b27) S7 y25 p1 p2 p3 r28 hr29 (hst.part [2] rfl)) ?_
  rintro e w30 ⟨S32, rfl, hst31⟩
  refine ⟨_, rfl, ?_⟩
  have hst := hst.join (idx := [2]) (rest := [0, 1]) rfl hst31
  refine OW.stB hst 2 rfl rfl rfl rfl rfl (by kernel_rfl) rfl rfl [I r28.1.E, .bool r28.1.Found, U r28.1.Val, .bool r28.1.Out, U r28.1.OutKey, U r28.1.OutVal] rfl ?_
  intro w33 hst
  refine nx (CW.ret ?_)
  have hst := hst.toOpt 0 rfl
  have hst := hst.optNil 125 R_t125
  obtain ⟨S34, hst⟩ := hst.shutP2 R_t111 rfl 1 0 3 [2] rfl rfl rfl rfl (tappetref15_Shard.mk (some r28.2) none) rfl rfl
  obtain rfl := inj hF
  refine QW.ret_c rfl rfl (run_loadN (cs := [I r28.1.E, .bool r28.1.Found, U r28.1.Val, .bool r28.1.Out, U r28.1.OutKey, U r28.1.OutVal]) (by kernel_rfl) (by kernel_rfl) (hst.blkN 0 rfl 0 6)) ?_
  exact ⟨S34, rfl, hst.keep [1] rfl⟩
 have hF := ocase_some hF he13
 have hst := hst.optSome 3 rfl he13
 obtain ⟨b15, rfl⟩ := hst.fptr 3 rfl
 refine pu 1 [(13, .bool true)] (nx (CW.cond_t rfl rfl (rg ?_)))
 refine pu 3 [(16, .pointer (some ⟨b1, 1, none⟩))] ?_
 refine OW.ld rfl rfl rfl rfl (by kernel_rfl) (hst.blk 0 rfl rfl) ?_
 refine pu 3 [(18, I p1), (19, U p2), (20, U p3)] ?_
 obtain ⟨r41, hr42, hF⟩ := bs hF
 refine OW.fn rfl rfl rfl rfl (by kernel_rfl) (tappetref14_LRU_Do_ok _ fu (Pt b15) S9 y14 p1 p2 p3 r41 hr42 (hst.part [3] rfl)) ?_
 rintro e w43 ⟨S45, rfl, hst44⟩
 refine ⟨_, rfl, ?_⟩
 have hst := hst.join (idx := [3]) (rest := [0, 1, 2]) rfl hst44
 refine OW.stB hst 2 rfl rfl rfl rfl rfl (by kernel_rfl) rfl rfl [I r41.1.E, .bool r41.1.Found, U r41.1.Val, .bool r41.1.Out, U r41.1.OutKey, U r41.1.OutVal] rfl ?_
 intro w46 hst
 refine nx (CW.ret (QW.then_ret ?_))
 have hst := hst.toOpt 0 rfl
 obtain ⟨S47, hst⟩ := hst.shutP2 R_t111 rfl 1 3 0 [2] rfl rfl rfl rfl (tappetref15_Shard.mk p0.B (some r41.2)) rfl rfl
 obtain rfl := inj hF
 refine QW.ret_c rfl rfl (run_loadN (cs := [I r41.1.E, .bool r41.1.Found, U r41.1.Val, .bool r41.1.Out, U r41.1.OutKey, U r41.1.OutVal]) (by kernel_rfl) (by kernel_rfl) (hst.blkN 0 rfl 0 6)) ?_
 exact ⟨S47, rfl, hst.keep [1] rfl⟩
theorem tappetref15_Map_Do_ok (w : World) (fu : Nat) (v0 : Value) (S0 : List Nat) (p0 : tappetref15_Map) (p1 : Int) (p2 : Int) (p3 : Int) (r : api_Res × tappetref15_Map) (hF : tappetref15_Map_Do fu p0 p1 p2 p3 = some r)
    (hst : St w (fp [itI R_t56 [v0] S0 p0]) w [itI R_t56 [v0] S0 p0]) :
    Calls Try.prog 21 [v0, I p1, U p2, U p3].toArray w (fun e w' => ∃ (s0 : List Nat), e = .returned (.agg [I r.1.E, .bool r.1.Found, U r.1.Val, .bool r.1.Out, U r.1.OutKey, U r.1.OutVal].toArray) ∧ St w (fp [itI R_t56 [v0] S0 p0]) w' [itI R_t56 [v0] s0 r.2]) := by
 refine CW.start (N := 26) Try.func21 rfl rfl rfl ?_
 obtain ⟨b1, rfl⟩ := hst.fptr 0 rfl
 refine rg ?_
 refine OW.alloc hst rfl rfl rfl [I 0, .bool false, U 0, .bool false, U 0, U 0] (by kernel_rfl) ?_
 intro b4 w5 hst
 refine nx (CW.seq ?_)
 obtain ⟨v6, S7, hst⟩ := hst.openQ1 0 rfl rfl
 have hst := hst.toN1 2 rfl
 obtain ⟨l8, a9, c10, rfl⟩ := hst.nlen 2 rfl
 have hst : St _ _ _ [blkI b1 82 [.slice a9 (p0.S).length c10], _, _] := hst
 refine CW.plan (by kernel_rfl) ?_
 intro w34 hch35
 have hst := hst.same hch35
 refine OA.pure [0, 1, 2] [(11, Pt b1)] (by kernel_rfl) ?_
 refine OA.ld (i := 3) rfl (by kernel_rfl) rfl rfl rfl (by kernel_rfl) (hst.blk 0 rfl rfl) ?_
 refine OA.pure [4, 5, 6, 7] [(13, U p2), (16, Pt b1)] (by kernel_rfl) ?_
 refine OA.ld (i := 8) rfl (by kernel_rfl) rfl rfl rfl (by kernel_rfl) (hst.blk 0 rfl rfl) ?_
 refine OA.pure [9, 13, 14, 15] [(18, I ((p0.S).length : Int)), (22, I p1), (23, U p2), (24, U p3)] (by kernel_rfl) ?_
 refine OA.act (i := 10) [3] (by kernel_rfl) rfl rfl (by kernel_rfl) (by kernel_rfl) ?_
 obtain ⟨r36, hr37, hF⟩ := bs hF
 refine OW.fn rfl rfl rfl rfl (by kernel_rfl) (tappetref12_Of_ok _ p2 ((p0.S).length : Int) r36 hr37 (hst.part [] rfl)) ?_
 rintro e w38 ⟨rfl, hst39⟩
 refine ⟨_, rfl, ?_⟩
 have hst := hst.join (idx := []) (rest := [0, 1, 2]) rfl hst39
 refine OA.next ⟨(hst.blk 0 rfl rfl), trivial⟩ ?_
 obtain ⟨x40, hx41, hF⟩ := bs hF
 obtain ⟨g43, o44, c45, hv42⟩ := hst.nrowv 2 rfl hx41
 refine OA.idx (i := 11) 83 1 rfl (by kernel_rfl) rfl rfl rfl hv42 rfl (idx_some hx41).1 (idx_some hx41).2.1 (by kernel_rfl) (by kernel_rfl) ?_
 obtain ⟨v46, S47, S48, hce49, hst⟩ := hst.nout1 2 rfl rfl hx41 hv42
 obtain ⟨b50, rfl⟩ := hst.fptr 3 rfl
 refine OA.ld (i := 12) rfl (by kernel_rfl) rfl rfl rfl (by kernel_rfl) hce49 ?_
 refine OA.act (i := 16) [] (by kernel_rfl) rfl rfl (by kernel_rfl) (by kernel_rfl) ?_
 obtain ⟨r51, hr52, hF⟩ := bs hF
 refine OW.fn rfl rfl rfl rfl (by kernel_rfl) (tappetref15_Shard_Do_ok _ fu (Pt b50) S48 x40 p1 p2 p3 r51 hr52 (hst.part [3] rfl)) ?_
 rintro e w53 ⟨S55, rfl, hst54⟩
 refine ⟨_, rfl, ?_⟩
 have hst := hst.join (idx := [3]) (rest := [0, 1, 2]) rfl hst54
 refine OA.next trivial ?_
 refine OA.act (i := 17) [] (by kernel_rfl) rfl rfl (by kernel_rfl) (by kernel_rfl) ?_
 refine OW.stB hst 2 rfl rfl rfl rfl rfl (by kernel_rfl) rfl rfl [I r51.1.E, .bool r51.1.Found, U r51.1.Val, .bool r51.1.Out, U r51.1.OutKey, U r51.1.OutVal] rfl ?_
 intro w56 hst
 refine OA.next trivial ?_
 refine OA.fin (by kernel_rfl) (by kernel_rfl) (QW.next (CW.ret ?_))
 obtain ⟨S57, hst⟩ := hst.nback 3 0 rfl rfl rfl hx41
 have hst := hst.keep [1, 2, 3] rfl
 have hst := hst.ofN 2 rfl (by decide)
 obtain ⟨S58, hst⟩ := hst.shutP1 R_t82 rfl 0 2 [1] rfl rfl rfl (tappetref15_Map.mk (p0.S.set (Int.toNat r36) r51.2)) rfl rfl
 obtain rfl := inj hF
 refine QW.ret_c rfl rfl (run_loadN (cs := [I r51.1.E, .bool r51.1.Found, U r51.1.Val, .bool r51.1.Out, U r51.1.OutKey, U r51.1.OutVal]) (by kernel_rfl) (by kernel_rfl) (hst.blkN 0 rfl 0 6)) ?_
 exact ⟨S58, rfl, hst.keep [1] rfl⟩
theorem book_Book_find_1_ok (w : World) (p0 : api_Pair) (p1 : Int) (r : Int) (hF : book_Book_find_1 p0 p1 = some r)
    (hst : St w (fp []) w []) :
    Calls Try.prog 83 [.agg [U p0.Key, U p0.Val].toArray, U p1].toArray w (fun e w' => e = .returned (I r) ∧ St w (fp []) w' []) := by
 refine CW.start (N := 15) Try.func83 rfl rfl rfl (rg ?_)
 refine OW.box hst rfl rfl rfl rfl [U p0.Key, U p0.Val] rfl ?_
 intro b3 w4 hst
 refine pu 1 [] (nx (CW.seq (CW.block (rg ?_))))
 refine pu 1 [(6, Pt b3)] ?_
 refine OW.ld rfl rfl rfl rfl (by kernel_rfl) (hst.blk 0 rfl rfl) ?_
 refine pu 3 [(5, .bool (decide (p0.Key < p1)))] (nx ?_)
 refine br (decide (p0.Key < p1)) hF (fun hF hc5 => ?_) (fun hF hc5 => ?_)
 ·refine rg ?_
  refine pu 1 [(4, I (-1))] (nx (CW.ret (QW.block_ret (QW.then_ret ?_))))
  obtain rfl := inj hF
  refine QW.ret1 rfl rfl ?_
  exact ⟨rfl, hst.keep [] rfl⟩
 refine rg ?_
 refine pu 1 [(11, Pt b3)] ?_
 refine OW.ld rfl rfl rfl rfl (by kernel_rfl) (hst.blk 0 rfl rfl) ?_
 refine pu 3 [(10, .bool (decide (p0.Key > p1)))] (nx ?_)
 refine br (decide (p0.Key > p1)) hF (fun hF hc6 => ?_) (fun hF hc6 => ?_)
 ·refine rg ?_
  refine pu 1 [(4, I 1)] (nx (CW.ret (QW.block_ret (QW.then_ret ?_))))
  obtain rfl := inj hF
  refine QW.ret1 rfl rfl ?_
  exact ⟨rfl, hst.keep [] rfl⟩
 refine CW.skip (QW.block_normal (QW.next (rg ?_)))
 refine pu 1 [(4, I 0)] (nx (CW.ret ?_))
 obtain rfl := inj hF
 refine QW.ret1 rfl rfl ?_
 exact ⟨rfl, hst.keep [] rfl⟩
theorem slices_BinarySearchFunc_tappet_api_Pair_tappet_api_Pair_uint64_83_ok (w : World) (fu : Nat) (v0 : Value) (p0 : List api_Pair) (p1 : Int) (r : Int × Bool) (hF : slices_BinarySearchFunc_tappet_api_Pair_tappet_api_Pair_uint64_83 fu p0 p1 = some r)
    (hst : St w (fp []) w []) (h0 : Rd w (fp []) v0 enc_api_Pair 2 p0) :
    Calls Try.prog 82 [v0, U p1, .func (.func 83) #[] #[]].toArray w (fun e w' => e = .returned (.tuple #[I r.1, .bool r.2]) ∧ St w (fp []) w' []) := by
 refine CW.start (N := 49) Try.func82 rfl rfl rfl ?_
 obtain ⟨l1, a2, c3, rfl⟩ := h0.len
 refine rg ?_
 refine pu 2 [] (nx (rg ?_))
 refine pu 3 [(8, I ((p0).length : Int))] (nx (rg ?_))
 refine pu 3 [(9, I 0), (10, I ((p0).length : Int))] (nx (CW.seq ?_))
 obtain ⟨o74, ho75, hF⟩ := bs hF
 refine CW.cutK (fun a w1 => Rep 49 [(0, .slice a2 (p0).length c3), (1, U p1), (2, .func (.func 83) #[] #[]), (8, I ((p0).length : Int)), (9, I o74)] a ∧ St w (fp []) w1 []) ?_ ?_
 ·refine CW.block ?_
  refine CW.loop (fun n a w1 => ∃ (s123 : Int × Int), Rep 49 [(0, .slice a2 (p0).length c3), (1, U p1), (2, .func (.func 83) #[] #[]), (8, I ((p0).length : Int)), (9, I s123.1), (10, I s123.2)] a ∧ St w (fp []) w1 [] ∧ loop (slices_BinarySearchFunc_tappet_api_Pair_tappet_api_Pair_uint64_83_l1 p0 p1) n s123 = some o74) fu (fun a ha => ⟨(0, ((p0).length : Int)), ha.ag, hst.keep [] rfl, ho75⟩) ?_
  rintro n121 a w1 ⟨s123, ha, hst, hl122⟩
  rcases n121 with _ | n121
  ·exact (loop_zero hl122).elim
  refine CW.go ?_ ha
  refine CW.seq (rg ?_)
  refine pu 3 [(17, .bool (decide (s123.1 < s123.2)))] (nx ?_)
  refine br (decide (s123.1 < s123.2)) hl122 (fun hl122 hc124 => ?_) (fun hl122 hc124 => ?_)
  ·refine CW.skip (QW.next (CW.block (rg ?_)))
   refine pu 7 [(11, I (w64 (bShr .u64 (wu64 (w64 (s123.1 + s123.2))) 1)))] (nx (rg ?_))
   refine pu 3 [(24, .func (.func 83) #[] #[]), (25, .slice a2 (p0).length c3), (26, I (w64 (bShr .u64 (wu64 (w64 (s123.1 + s123.2))) 1)))] ?_
   obtain ⟨x135, hx136, hl122⟩ := bs hl122
   obtain ⟨g138, o139, c140, hv137⟩ := h0.formv (fun _ => ⟨_, rfl⟩) hx136
   refine OW.idx 129 2 rfl rfl rfl rfl hv137 rfl (idx_some hx136).1 (idx_some hx136).2.1 (by kernel_rfl) (by kernel_rfl) ?_
   refine OW.ldN (cs := enc_api_Pair x135) rfl rfl rfl rfl (by kernel_rfl) (by kernel_rfl) (h0.cellv hst hx136 hv137) ?_
   refine pu 1 [(29, U p1)] ?_
   obtain ⟨r141, hr142, hl122⟩ := bs hl122
   refine OW.fn rfl rfl rfl rfl (by kernel_rfl) (book_Book_find_1_ok _ x135 p1 r141 hr142 (hst.part [] rfl)) ?_
   rintro e w143 ⟨rfl, hst144⟩
   refine ⟨_, rfl, ?_⟩
   have hst := hst.join (idx := []) (rest := []) rfl hst144
   refine pu 1 [(31, .bool (decide (r141 < 0)))] (nx ?_)
   refine br (decide (r141 < 0)) hl122 (fun hl122 hc145 => ?_) (fun hl122 hc145 => ?_)
   ·refine CW.region ?_
    refine pu 3 [(9, I (w64 ((w64 (bShr .u64 (wu64 (w64 (s123.1 + s123.2))) 1)) + 1)))] (OW.nil rfl (QW.block_normal ?_))
    exact QW.meet (fun a ha => ⟨n121, Nat.lt_succ_self _, (w64 ((w64 (bShr .u64 (wu64 (w64 (s123.1 + s123.2))) 1)) + 1), s123.2), ha.ag, hst.keep [] rfl, hl122⟩)
   refine CW.region ?_
   refine pu 2 [(10, I (w64 (bShr .u64 (wu64 (w64 (s123.1 + s123.2))) 1)))] (OW.nil rfl (QW.block_normal ?_))
   exact QW.meet (fun a ha => ⟨n121, Nat.lt_succ_self _, (s123.1, w64 (bShr .u64 (wu64 (w64 (s123.1 + s123.2))) 1)), ha.ag, hst.keep [] rfl, hl122⟩)
  refine CW.exit (QW.then_exit (QW.then_exit ?_))
  refine QW.block_here ?_
  obtain rfl := inj hl122
  exact QW.meet (fun a ha => ⟨ha.ag, hst.keep [] rfl⟩)
 rintro a w1 ⟨ha, hst⟩
 refine CW.go ?_ ha
 refine CW.seq ?_
 obtain ⟨o157, ho158, hF⟩ := bs hF
 refine CW.cutK (fun a w1 => Rep 49 [(6, I o74), (7, .bool o157)] a ∧ St w (fp []) w1 []) ?_ ?_
 ·refine CW.region ?_
  refine pu 5 [(35, I o74), (39, .bool (decide (o74 < ((p0).length : Int))))] ?_
  refine OW.split 39 rfl (fun hc159 => ?_) (fun hc159 => ?_)
  ·have ho158 := ite_t ho158 hc159
   refine pu 3 [(40, .func (.func 83) #[] #[]), (41, .slice a2 (p0).length c3), (42, I o74)] ?_
   obtain ⟨x160, hx161, ho158⟩ := bs ho158
   obtain ⟨g163, o164, c165, hv162⟩ := h0.formv (fun _ => ⟨_, rfl⟩) hx161
   refine OW.idx 129 2 rfl rfl rfl rfl hv162 rfl (idx_some hx161).1 (idx_some hx161).2.1 (by kernel_rfl) (by kernel_rfl) ?_
   refine OW.ldN (cs := enc_api_Pair x160) rfl rfl rfl rfl (by kernel_rfl) (by kernel_rfl) (h0.cellv hst hx161 hv162) ?_
   refine pu 1 [(45, U p1)] ?_
   obtain ⟨r166, hr167, ho158⟩ := bs ho158
   refine OW.fn rfl rfl rfl rfl (by kernel_rfl) (book_Book_find_1_ok _ x160 p1 r166 hr167 (hst.part [] rfl)) ?_
   rintro e w168 ⟨rfl, hst169⟩
   refine ⟨_, rfl, ?_⟩
   have hst := hst.join (idx := []) (rest := []) rfl hst169
   refine pu 4 [(6, I o74), (7, .bool (r166 == 0))] (OW.nil rfl ?_)
   obtain rfl := inj ho158
   exact QW.meet (fun a ha => ⟨ha.ag, hst.keep [] rfl⟩)
  have ho158 := ite_f ho158 hc159
  refine pu 11 [(6, I o74), (7, .bool false)] (OW.nil rfl ?_)
  obtain rfl := inj ho158
  exact QW.meet (fun a ha => ⟨ha.ag, hst.keep [] rfl⟩)
 rintro a w1 ⟨ha, hst⟩
 refine CW.go ?_ ha
 refine CW.ret ?_
 obtain rfl := inj hF
 refine QW.ret2 rfl rfl rfl ?_
 exact ⟨rfl, hst.keep [] rfl⟩
theorem book_Book_find_ok (w : World) (fu : Nat) (v0 : Value) (S0 : List Nat) (p0 : book_Book) (p1 : Int) (r : Int × Bool) (hF : book_Book_find fu p0 p1 = some r)
    (hst : St w (fp [itI R_t114 [v0] S0 p0]) w [itI R_t114 [v0] S0 p0]) :
    Calls Try.prog 79 [v0, U p1].toArray w (fun e w' => ∃ (s0 : List Nat), e = .returned (.tuple #[I r.1, .bool r.2]) ∧ St w (fp [itI R_t114 [v0] S0 p0]) w' [itI R_t114 [v0] s0 p0]) := by
 refine CW.start (N := 14) Try.func79 rfl rfl rfl ?_
 obtain ⟨b1, rfl⟩ := hst.fptr 0 rfl
 refine rg ?_
 refine pu 2 [] (nx (CW.seq ?_))
 obtain ⟨v2, S3, hst⟩ := hst.openQ1 0 rfl rfl
 have hst := hst.toRow1 1 rfl
 obtain ⟨l4, a5, c6, rfl⟩ := hst.len 1 rfl
 have hst : St _ _ _ [blkI b1 131 [I p0.cap, .slice a5 (p0.pairs).length c6], _] := hst
 refine CW.region ?_
 refine pu 3 [(8, .pointer (some ⟨b1, 1, none⟩))] ?_
 refine OW.ld rfl rfl rfl rfl (by kernel_rfl) (hst.blk 0 rfl rfl) ?_
 refine pu 1 [(10, U p1)] ?_
 obtain ⟨r11, hr12, hF⟩ := bs hF
 refine OW.fn rfl rfl rfl rfl (by kernel_rfl) (slices_BinarySearchFunc_tappet_api_Pair_tappet_api_Pair_uint64_83_ok _ fu (.slice a5 (p0.pairs).length c6) p0.pairs p1 r11 hr12 (hst.part [] rfl) (hst.rd 1 rfl (fun _ => rfl) [] rfl (hst.len 1 rfl).1)) ?_
 rintro e w13 ⟨rfl, hst14⟩
 refine ⟨_, rfl, ?_⟩
 have hst := hst.join (idx := []) (rest := [0, 1]) rfl hst14
 refine pu 4 [(4, I r11.1), (5, .bool r11.2)] (nx (CW.ret ?_))
 have hst := hst.toIt 1 rfl (fun _ => rfl) (by decide)
 obtain ⟨S15, hst⟩ := hst.shutP1 R_t131 rfl 0 1 [] rfl rfl rfl p0 rfl rfl
 obtain rfl := inj hF
 refine QW.ret2 rfl rfl rfl ?_
 exact ⟨S15, rfl, hst.keep [0] rfl⟩
theorem slices_Delete_tappet_api_Pair_tappet_api_Pair_ok (w : World) (v0 : Value) (p0 : List api_Pair) (p1 : Int) (p2 : Int) (r : List api_Pair) (hF : slices_Delete_tappet_api_Pair_tappet_api_Pair p0 p1 p2 = some r)
    (hst : St w (fp [rowI v0 129 enc_api_Pair 2 p0]) w [rowI v0 129 enc_api_Pair 2 p0]) :
    Calls Try.prog 80 [v0, I p1, I p2].toArray w (fun e w' => ∃ x0 : Value, e = .returned x0 ∧ St w (fp [rowI v0 129 enc_api_Pair 2 p0]) w' [rowI x0 129 enc_api_Pair 2 r]) := by
  obtain ⟨p, q, rfl, rfl, hpq, hq, rfl⟩ := delF_some hF
  refine CW.start (N := 33) Try.func80 rfl rfl rfl ?_
  obtain ⟨l0, a0, c0, rfl⟩ := hst.len 0 rfl
  have hcap : p0.length ≤ c0 := hst.cap 0 rfl
  have hp : p ≤ p0.length := by omega
  refine rg ?_
  refine pu 1 [] (nx (rg ?_))
  refine pu 5 [(8, .slice a0 p0.length c0), (9, I (p : Int)), (10, I (q : Int)), (12, I (p0.length : Int))] ?_
  obtain ⟨v3, h3⟩ := sub3_val (P := Try.prog) (N := 33) (t := 120) (e := 129) (sz := 2) a0 p0.length c0 (q := (p : Int)) (r := (q : Int)) (m := (p0.length : Int)) (by omega) (by omega) (by omega) (by omega) (by kernel_rfl) (by kernel_rfl)
  refine OW.op (v := v3) rfl rfl rfl rfl (fun a ha => h3 _ _ rfl rfl rfl rfl rfl a _ ha) ?_
  refine nx (CW.seq (rg ?_))
  refine pu 3 [(16, .bool ((p : Int) == (q : Int)))] (nx ?_)
  rcases bft ((p : Int) == (q : Int)) with hc | hc
  · refine CW.cond_t rfl hc (rg ?_)
    refine pu 2 [(6, .slice a0 p0.length c0)] (nx (CW.ret (QW.then_ret ?_)))
    refine QW.ret1 rfl rfl ?_
    have e0 : p = q := by have := (show (p : Int) = (q : Int) from (by simpa using hc))
                          omega
    have e1 : p0.take p ++ p0.drop q = p0 := by rw [e0, List.take_append_drop]
    exact ⟨_, rfl, by rw [e1]; exact hst.keep [0] rfl⟩
  refine CW.cond_f rfl hc (CW.skip (QW.next (rg ?_)))
  refine pu 3 [(7, I (p0.length : Int))] (nx (CW.seq (CW.tail 6 (by kernel_rfl) (by kernel_rfl) ?_)))
  intro w3 hch
  have hst := hst.same hch
  have hdl : (p0.drop q).length = p0.length - q := List.length_drop
  have htl : (p0.take p).length = p := by rw [List.length_take]; omega
  refine OS.pure 2 [(20, .slice a0 p0.length c0), (21, I (p : Int))] rfl (by kernel_rfl) ?_
  refine OS.op (v := .slice a0 (p0.take p).length c0) rfl rfl rfl rfl rfl (fun a ha => pre_run (xs := p0) (e := 129) 2 rfl rfl rfl (cut_prf rfl hp) hcap (by kernel_rfl) (by kernel_rfl) a _ ha) ?_
  refine OS.pure 2 [(23, .slice a0 p0.length c0), (24, I (q : Int))] rfl (by kernel_rfl) ?_
  refine OS.op (v := .slice (shd a0 c0 (Int.toNat (q : Int)) 2) (p0.drop q).length (c0 - Int.toNat (q : Int))) rfl rfl rfl rfl rfl (fun a ha => suf_run (xs := p0) (e := 129) 2 rfl rfl rfl rfl (cut_suf rfl hq) (by kernel_rfl) (by kernel_rfl) a _ ha) ?_
  refine OS.on ?_
  refine OW.appW hst 0 rfl (fun _ => rfl) (fun _ => rfl) rfl rfl rfl rfl rfl rfl (by kernel_rfl) el129 ((hst.rd 0 rfl (fun _ => rfl) [] rfl (hst.len 0 rfl).1).part (cut_suf (k := q) rfl hq)) (by omega) ?_
  intro w4 hst
  have hX : (over p0 (p0.take p).length (p0.drop q)).length = p0.length := over_len _ _ _ (by omega)
  have hk : (p0.take p).length + (p0.drop q).length ≤ (over p0 (p0.take p).length (p0.drop q)).length := by omega
  refine pu 1 [(0, .slice a0 ((p0.take p).length + (p0.drop q).length) c0)] (nx (rg ?_))
  refine pu 4 [(27, .slice a0 ((p0.take p).length + (p0.drop q).length) c0), (29, I (((p0.take p).length + (p0.drop q).length : Nat) : Int)), (30, I (p0.length : Int))] ?_
  have hcs : cut (over p0 (p0.take p).length (p0.drop q)) (((p0.take p).length + (p0.drop q).length : Nat) : Int) ((over p0 (p0.take p).length (p0.drop q)).length : Int) = some ((over p0 (p0.take p).length (p0.drop q)).drop ((p0.take p).length + (p0.drop q).length)) := cut_suf rfl hk
  have hcs2 : cut (over p0 (p0.take p).length (p0.drop q)) (((p0.take p).length + (p0.drop q).length : Nat) : Int) (p0.length : Int) = some ((over p0 (p0.take p).length (p0.drop q)).drop ((p0.take p).length + (p0.drop q).length)) := by rw [← hcs, hX]
  refine OW.op (v := .slice (shd a0 c0 (Int.toNat (((p0.take p).length + (p0.drop q).length : Nat) : Int)) 2) ((over p0 (p0.take p).length (p0.drop q)).drop ((p0.take p).length + (p0.drop q).length)).length (c0 - Int.toNat (((p0.take p).length + (p0.drop q).length : Nat) : Int))) rfl rfl rfl rfl (fun a ha => sub_run (xs := (over p0 (p0.take p).length (p0.drop q))) (e := 129) 2 rfl rfl rfl rfl hcs2 (by omega) (by kernel_rfl) (by kernel_rfl) a _ ha) ?_
  refine OW.clearR (e := 129) hst 0 rfl (fun _ => rfl) rfl rfl hcs rfl rfl (by kernel_rfl) (api_Pair.mk 0 0) (by kernel_rfl) rfl ?_
  intro w5 hst
  refine nx (rg ?_)
  refine pu 2 [(6, .slice a0 ((p0.take p).length + (p0.drop q).length) c0)] (nx (CW.ret ?_))
  refine QW.ret1 rfl rfl ?_
  rw [Int.toNat_natCast] at hst
  have hc5 := cut_prf (xs := ((over p0 (p0.take p).length (p0.drop q)).take ((p0.take p).length + (p0.drop q).length) ++ List.replicate ((over p0 (p0.take p).length (p0.drop q)).drop ((p0.take p).length + (p0.drop q).length)).length (api_Pair.mk 0 0))) (k := (p0.take p).length + (p0.drop q).length) rfl (by rw [List.length_append, List.length_take_of_le hk]; omega)
  have hst := hst.cutRow 0 rfl (fun _ => rfl) hc5
  have e5 := delL (xs := p0) (p := (p0.take p).length) (q := q) (by omega) hq (api_Pair.mk 0 0) ((over p0 (p0.take p).length (p0.drop q)).drop ((p0.take p).length + (p0.drop q).length)).length
  rw [e5, htl] at hst
  have e6 : (p0.take p ++ p0.drop q).length = p + (p0.drop q).length := by rw [List.length_append, htl]
  rw [e6] at hst
  rw [htl]
  exact ⟨_, rfl, hst.keep [0] rfl⟩
theorem slices_Insert_tappet_api_Pair_tappet_api_Pair_ok (w : World) (v0 : Value) (p0 : List api_Pair) (p1 : Int) (v2 : Value) (p2 : List api_Pair) (r : List api_Pair × List api_Pair) (hF : slices_Insert_tappet_api_Pair_tappet_api_Pair p0 p1 p2 = some r)
    (hst : St w (fp [rowI v0 129 enc_api_Pair 2 p0, rowI v2 129 enc_api_Pair 2 p2]) w [rowI v0 129 enc_api_Pair 2 p0, rowI v2 129 enc_api_Pair 2 p2]) :
    Calls Try.prog 81 [v0, I p1, v2].toArray w (fun e w' => ∃ x0 : Value, e = .returned x0 ∧ St w (fp [rowI v0 129 enc_api_Pair 2 p0, rowI v2 129 enc_api_Pair 2 p2]) w' [rowI v2 129 enc_api_Pair 2 r.2, rowI x0 129 enc_api_Pair 2 r.1]) := by
  obtain ⟨k, rfl, hk, hroom, rfl⟩ := insF_some hF
  refine CW.start (N := 95) Try.func81 rfl rfl rfl ?_
  obtain ⟨l0, a0, c0, rfl⟩ := hst.len 0 rfl
  obtain ⟨l2, a2, c2, rfl⟩ := hst.len 1 rfl
  have hbs : p0.length + p2.length ≤ 140737488355328 := Nat.le_trans (Nat.le_mul_of_pos_right _ (show 0 < 16 by decide)) hroom
  have hcap : p0.length ≤ c0 := hst.cap 0 rfl
  refine rg ?_
  refine pu 1 [] ?_
  refine nx ?_
  refine rg ?_
  refine pu 2 [(10, .slice a0 p0.length c0), (11, I (k : Int))] ?_
  refine OW.op (v := .slice (shd a0 c0 (Int.toNat (k : Int)) 2) (p0.drop k).length (c0 - Int.toNat (k : Int))) rfl rfl rfl rfl (fun a ha => suf_run (xs := p0) (e := 129) 2 rfl rfl rfl rfl (cut_suf rfl hk) (by kernel_rfl) (by kernel_rfl) a _ ha) ?_
  refine nx ?_
  refine rg ?_
  refine pu 3 [(7, I (p2.length : Int))] ?_
  refine nx ?_
  refine CW.seq (rg ?_)
  refine pu 2 [(16, .bool ((p2.length : Int) == 0))] ?_
  refine nx ?_
  rcases bft ((p2.length : Int) == 0) with hm | hm
  · refine CW.cond_t rfl hm (rg ?_)
    refine pu 2 [(6, .slice a0 p0.length c0)] (nx (CW.ret (QW.then_ret ?_)))
    refine QW.ret1 rfl rfl ?_
    have e0 : p2 = [] := List.eq_nil_of_length_eq_zero (by simpa using hm)
    have e1 : p0.take k ++ p2 ++ p0.drop k = p0 := by rw [e0, List.append_nil, List.take_append_drop]
    exact ⟨_, rfl, by rw [e1]; exact hst.keep [1, 0] rfl⟩
  have hm0 : 0 < p2.length := by have : ¬ p2.length = 0 := by (simpa using hm)
                                 omega
  refine CW.cond_f rfl hm (CW.skip (QW.next ?_))
  refine rg ?_
  refine pu 3 [(8, I (p0.length : Int))] ?_
  refine nx ?_
  refine CW.seq (rg ?_)
  refine pu 3 [(22, .bool ((k : Int) == (p0.length : Int)))] ?_
  refine nx ?_
  rcases bft ((k : Int) == (p0.length : Int)) with hn | hn
  · refine CW.cond_t rfl hn (rg ?_)
    refine pu 2 [(23, .slice a0 p0.length c0), (24, .slice a2 p2.length c2)] ?_
    refine OW.app hst 0 rfl (fun _ => rfl) (fun _ => rfl) rfl rfl rfl rfl rfl rfl (by kernel_rfl) el129 (hst.rd 1 rfl (fun _ => rfl) [] rfl (hst.len 1 rfl).1) hroom ?_
    intro v3 w1 hst
    refine pu 1 [(6, v3)] (nx (CW.ret (QW.then_ret ?_)))
    refine QW.ret1 rfl rfl ?_
    have e0 : k = p0.length := by have := (show (k : Int) = (p0.length : Int) from (by simpa using hn))
                                  omega
    have e1 : p0.take k ++ p2 ++ p0.drop k = p0 ++ p2 := by rw [e0, List.take_length, List.drop_length, List.append_nil]
    exact ⟨_, rfl, by rw [e1]; exact hst.keep [1, 0] rfl⟩
  have hkn : k < p0.length := by have : ¬ k = p0.length := by (intro e; rw [e] at hn; simp at hn)
                                 omega
  refine CW.cond_f rfl hn (CW.skip (QW.next ?_))
  have hw1 : w64 ((p0.length : Int) + (p2.length : Int)) = ((p0.length + p2.length : Nat) : Int) := by rw [w64_eq (by omega) (by omega)]; simp
  refine CW.seq (rg ?_)
  refine pu 6 [(31, .bool (decide (w64 ((p0.length : Int) + (p2.length : Int)) > (c0 : Int))))] ?_
  refine nx ?_
  rcases bft (decide (w64 ((p0.length : Int) + (p2.length : Int)) > (c0 : Int))) with hg | hg
  · have hg2 : c0 < p0.length + p2.length := by rw [hw1] at hg; simp at hg; omega
    have hw2 : w64 (w64 ((p0.length : Int) + (p2.length : Int)) - (k : Int)) = ((p0.length + p2.length - k : Nat) : Int) := by rw [hw1, w64_eq (by omega) (by omega)]; omega
    have hw3 : w64 ((k : Int) + (p2.length : Int)) = ((k + p2.length : Nat) : Int) := by rw [w64_eq (by omega) (by omega)]; simp
    have htk : (p0.take k).length = k := by rw [List.length_take]; omega
    refine CW.cond_t rfl hg (rg ?_)
    refine pu 2 [(32, .slice a0 p0.length c0), (33, I (k : Int))] ?_
    refine OW.op (v := .slice a0 (p0.take k).length c0) rfl rfl rfl rfl (fun a ha => pre_run (xs := p0) (e := 129) 2 rfl rfl rfl (cut_prf rfl hk) hcap (by kernel_rfl) (by kernel_rfl) a _ ha) ?_
    refine pu 5 [(39, I (w64 (w64 ((p0.length : Int) + (p2.length : Int)) - (k : Int))))] ?_
    refine OW.appZ (enc := enc_api_Pair) (sz := 2) hst (fun _ => rfl) rfl rfl rfl rfl (ys := p0.take k) rfl rfl hw2 (by kernel_rfl) (by kernel_rfl) el129 ((hst.rd 0 rfl (fun _ => rfl) [] rfl (hst.len 0 rfl).1).pre (cut_prf rfl hk)) (api_Pair.mk 0 0) (by kernel_rfl) (by omega) (by omega) (by rw [htk, show k + (p0.length + p2.length - k) = p0.length + p2.length by omega]; exact hroom) ?_
    intro g cc w1 hst hcc
    have hX : (p0.take k ++ List.replicate (p0.length + p2.length - k) (api_Pair.mk 0 0)).length = (p0.take k).length + (p0.length + p2.length - k) := by simp
    have hXk : k ≤ (p0.take k ++ List.replicate (p0.length + p2.length - k) (api_Pair.mk 0 0)).length := by omega
    refine pu 1 [(9, .slice (some ⟨g, 0, none⟩) ((p0.take k).length + (p0.length + p2.length - k)) cc)] (nx (rg ?_))
    refine pu 2 [(41, .slice (some ⟨g, 0, none⟩) ((p0.take k).length + (p0.length + p2.length - k)) cc), (42, I (k : Int))] ?_
    refine OW.op (v := .slice (shd (some ⟨g, 0, none⟩) cc (Int.toNat (k : Int)) 2) ((p0.take k ++ List.replicate (p0.length + p2.length - k) (api_Pair.mk 0 0)).drop k).length (cc - Int.toNat (k : Int))) rfl rfl rfl rfl (fun a ha => suf_run (xs := (p0.take k ++ List.replicate (p0.length + p2.length - k) (api_Pair.mk 0 0))) (e := 129) 2 rfl rfl hX.symm rfl (cut_suf rfl hXk) (by kernel_rfl) (by kernel_rfl) a _ ha) ?_
    refine pu 1 [(44, .slice a2 p2.length c2)] ?_
    refine OW.copyR (e := 129) hst 2 rfl (fun _ => rfl) (by decide) rfl rfl rfl rfl (cut_suf (k := k) rfl hXk) rfl rfl (by kernel_rfl) (by kernel_rfl) (hst.rd 1 rfl (fun _ => rfl) [] rfl (hst.len 1 rfl).1) (fun _ _ => rfl) ?_
    intro w2 hst
    refine nx (CW.seq (CW.tail 8 (by kernel_rfl) (by kernel_rfl) ?_))
    intro w3 hch
    have hst := hst.same hch
    have hX1 : (over (p0.take k ++ List.replicate (p0.length + p2.length - k) (api_Pair.mk 0 0)) (Int.toNat (k : Int)) p2).length = (p0.take k).length + (p0.length + p2.length - k) := (over_len _ _ _ hXk).trans hX
    have hX1k : k + p2.length ≤ (over (p0.take k ++ List.replicate (p0.length + p2.length - k) (api_Pair.mk 0 0)) (Int.toNat (k : Int)) p2).length := by omega
    refine OS.pure 4 [(46, .slice (some ⟨g, 0, none⟩) ((p0.take k).length + (p0.length + p2.length - k)) cc), (49, I (w64 ((k : Int) + (p2.length : Int))))] rfl (by kernel_rfl) ?_
    refine OS.op (v := .slice (shd (some ⟨g, 0, none⟩) cc (Int.toNat (w64 ((k : Int) + (p2.length : Int)))) 2) ((over (p0.take k ++ List.replicate (p0.length + p2.length - k) (api_Pair.mk 0 0)) (Int.toNat (k : Int)) p2).drop (k + p2.length)).length (cc - Int.toNat (w64 ((k : Int) + (p2.length : Int))))) rfl rfl rfl rfl rfl (fun a ha => suf_run (xs := (over (p0.take k ++ List.replicate (p0.length + p2.length - k) (api_Pair.mk 0 0)) (Int.toNat (k : Int)) p2)) (e := 129) 2 rfl rfl hX1.symm rfl (cut_suf hw3 hX1k) (by kernel_rfl) (by kernel_rfl) a _ ha) ?_
    refine OS.pure 2 [(51, .slice a0 p0.length c0), (52, I (k : Int))] rfl (by kernel_rfl) ?_
    refine OS.op (v := .slice (shd a0 c0 (Int.toNat (k : Int)) 2) (p0.drop k).length (c0 - Int.toNat (k : Int))) rfl rfl rfl rfl rfl (fun a ha => suf_run (xs := p0) (e := 129) 2 rfl rfl rfl rfl (cut_suf rfl hk) (by kernel_rfl) (by kernel_rfl) a _ ha) ?_
    refine OS.on ?_
    refine OW.copyR (e := 129) hst 2 rfl (fun _ => rfl) (by decide) rfl rfl rfl rfl (cut_suf hw3 hX1k) rfl rfl (by kernel_rfl) (by kernel_rfl) ((hst.rd 0 rfl (fun _ => rfl) [] rfl (hst.len 0 rfl).1).part (cut_suf (k := k) rfl hk)) (fun _ _ => rfl) ?_
    intro w4 hst
    refine nx (rg ?_)
    refine pu 2 [(6, .slice (some ⟨g, 0, none⟩) ((p0.take k).length + (p0.length + p2.length - k)) cc)] (nx (CW.ret (QW.then_ret ?_)))
    refine QW.ret1 rfl rfl ?_
    rw [hw3, Int.toNat_natCast, Int.toNat_natCast, insA hk] at hst
    exact ⟨_, rfl, hst.keep [1, 2] rfl⟩
  have hg2 : p0.length + p2.length ≤ c0 := by rw [hw1] at hg; simp at hg; omega
  have hw3 : w64 ((k : Int) + (p2.length : Int)) = ((k + p2.length : Nat) : Int) := by rw [w64_eq (by omega) (by omega)]; simp
  refine CW.cond_f rfl hg (CW.skip (QW.next ?_))
  refine rg ?_
  refine pu 4 [(56, .slice a0 p0.length c0), (59, I (w64 ((p0.length : Int) + (p2.length : Int))))] ?_
  refine OW.op (v := .slice a0 (p0.length + p2.length) c0) rfl rfl rfl rfl (fun a ha => room_run (k := p0.length + p2.length) (e := 129) (sz := 2) rfl rfl rfl hw1 hg2 (by kernel_rfl) (by kernel_rfl) a _ ha) ?_
  refine pu 1 [(0, .slice a0 (p0.length + p2.length) c0)] ?_
  refine nx ?_
  obtain ⟨junk, hjl, hst⟩ := hst.spare 0 rfl (fun _ => rfl) (k := p0.length + p2.length) (by omega) hg2
  have hjl : junk.length = p2.length := by omega
  have hX : (p0.map enc_api_Pair ++ junk).length = p0.length + p2.length := by simp [hjl]
  have hXk : k ≤ (p0.map enc_api_Pair ++ junk).length := by omega
  have hXm : k + p2.length ≤ (p0.map enc_api_Pair ++ junk).length := by omega
  refine CW.seq (rg ?_)
  refine pu 5 [(61, .slice a2 p2.length c2), (62, .slice a0 (p0.length + p2.length) c0), (65, I (w64 ((k : Int) + (p2.length : Int))))] ?_
  refine OW.op (v := .slice (shd a0 c0 (Int.toNat (w64 ((k : Int) + (p2.length : Int)))) 2) ((p0.map enc_api_Pair ++ junk).drop (k + p2.length)).length (c0 - Int.toNat (w64 ((k : Int) + (p2.length : Int))))) rfl rfl rfl rfl (fun a ha => suf_run (xs := (p0.map enc_api_Pair ++ junk)) (e := 129) 2 rfl rfl hX.symm rfl (cut_suf hw3 hXm) (by kernel_rfl) (by kernel_rfl) a _ ha) ?_
  refine OW.op (v := .bool false) rfl rfl rfl rfl (fun a ha => ovl_run (tS := 120) (tR := 4) (e := 129) (sz := 2) hst 1 0 rfl rfl rfl rfl rfl rfl Try.func84 (by kernel_rfl) (by kernel_rfl) (by kernel_rfl) (by kernel_rfl) (by kernel_rfl) (by kernel_rfl) (by decide) hm0 (by omega) a ha) ?_
  refine pu 1 [(68, .bool true)] ?_
  refine nx ?_
  refine CW.cond_t rfl rfl (CW.seq (CW.tail 8 (by kernel_rfl) (by kernel_rfl) ?_))
  intro w3 hch
  have hst := hst.same hch
  refine OS.pure 4 [(69, .slice a0 (p0.length + p2.length) c0), (72, I (w64 ((k : Int) + (p2.length : Int))))] rfl (by kernel_rfl) ?_
  refine OS.op (v := .slice (shd a0 c0 (Int.toNat (w64 ((k : Int) + (p2.length : Int)))) 2) ((p0.map enc_api_Pair ++ junk).drop (k + p2.length)).length (c0 - Int.toNat (w64 ((k : Int) + (p2.length : Int))))) rfl rfl rfl rfl rfl (fun a ha => suf_run (xs := (p0.map enc_api_Pair ++ junk)) (e := 129) 2 rfl rfl hX.symm rfl (cut_suf hw3 hXm) (by kernel_rfl) (by kernel_rfl) a _ ha) ?_
  refine OS.pure 2 [(74, .slice a0 (p0.length + p2.length) c0), (75, I (k : Int))] rfl (by kernel_rfl) ?_
  refine OS.op (v := .slice (shd a0 c0 (Int.toNat (k : Int)) 2) ((p0.map enc_api_Pair ++ junk).drop k).length (c0 - Int.toNat (k : Int))) rfl rfl rfl rfl rfl (fun a ha => suf_run (xs := (p0.map enc_api_Pair ++ junk)) (e := 129) 2 rfl rfl hX.symm rfl (cut_suf rfl hXk) (by kernel_rfl) (by kernel_rfl) a _ ha) ?_
  refine OS.on ?_
  have hrd := (hst.rd 0 rfl (fit_len 2) [] rfl (hst.len 0 rfl).1)
  rw [← hX] at hrd
  refine OW.copyR (e := 129) hst 0 rfl (fit_len 2) (by decide) rfl rfl rfl rfl (cut_suf hw3 hXm) rfl rfl (by kernel_rfl) (by kernel_rfl) (hrd.part (cut_suf (k := k) rfl hXk)) (insOnes hk hjl (fun _ => rfl) (fun _ => rfl)) ?_
  intro w4 hst
  have hX1 : (over (p0.map enc_api_Pair ++ junk) (Int.toNat (w64 ((k : Int) + (p2.length : Int)))) ((p0.map enc_api_Pair ++ junk).drop k)).length = p0.length + p2.length := (over_len _ _ _ (by rw [hw3, Int.toNat_natCast]; exact hXm)).trans hX
  have hX1k : k ≤ (over (p0.map enc_api_Pair ++ junk) (Int.toNat (w64 ((k : Int) + (p2.length : Int)))) ((p0.map enc_api_Pair ++ junk).drop k)).length := by omega
  refine nx (rg ?_)
  refine pu 2 [(78, .slice a0 (p0.length + p2.length) c0), (79, I (k : Int))] ?_
  refine OW.op (v := .slice (shd a0 c0 (Int.toNat (k : Int)) 2) ((over (p0.map enc_api_Pair ++ junk) (Int.toNat (w64 ((k : Int) + (p2.length : Int)))) ((p0.map enc_api_Pair ++ junk).drop k)).drop k).length (c0 - Int.toNat (k : Int))) rfl rfl rfl rfl (fun a ha => suf_run (xs := (over (p0.map enc_api_Pair ++ junk) (Int.toNat (w64 ((k : Int) + (p2.length : Int)))) ((p0.map enc_api_Pair ++ junk).drop k))) (e := 129) 2 rfl rfl hX1.symm rfl (cut_suf rfl hX1k) (by kernel_rfl) (by kernel_rfl) a _ ha) ?_
  refine pu 1 [(81, .slice a2 p2.length c2)] ?_
  refine OW.copyR (e := 129) hst 0 rfl (fit_len 2) (by decide) rfl rfl rfl rfl (cut_suf (k := k) rfl hX1k) rfl rfl (by kernel_rfl) (by kernel_rfl) ((hst.rd 1 rfl (fun _ => rfl) [] rfl (hst.len 1 rfl).1).raw (fun _ => rfl)) (insOnes2 (fun _ => rfl) (fun _ => rfl)) ?_
  intro w5 hst
  refine nx (rg ?_)
  refine pu 2 [(6, .slice a0 (p0.length + p2.length) c0)] (nx (CW.ret (QW.then_ret ?_)))
  refine QW.ret1 rfl rfl ?_
  rw [hw3, Int.toNat_natCast, Int.toNat_natCast, insB hk hjl] at hst
  have hst := hst.typed 0 rfl (fun _ => rfl) rfl
  exact ⟨_, rfl, hst.keep [1, 0] rfl⟩
end Go.Proofs.Ytpchniebplpboaa

/- Written by a program (wip/gen): the walks: each Go function returns what its plain function computes. -/
import Derived.Test.YtdnogiegiclcfaaGreatDoorProg
import Derived.Test.YtdnogiegiclcfaaGreatDoorF1
import Derived.Test.YtdnogiegiclcfaaGreatDoorSq
import Derived.Test.YtdnogiegiclcfaaGreatDoorPart
import Derived.Test.YtdnogiegiclcfaaGreatDoorExt
import Derived.Test.YtdnogiegiclcfaaGreatDoorSh
import Derived.Test.YtdnogiegiclcfaaGreatDoorO1
set_option linter.unusedSimpArgs false
namespace Go.Proofs.YtdnogiegiclcfaaGreatDoor
open Go.Sx
set_option linter.unusedVariables false
set_option maxRecDepth 10000
set_option maxHeartbeats 4000000
theorem el165 : Elem Tryz.prog 165 2 16 := Elem.of (i := Tryz.t165) (by kernel_rfl) (by kernel_rfl) (by kernel_rfl) (by kernel_rfl) (by kernel_rfl) (by decide) (by decide)
theorem el3 : Elem Tryz.prog 3 1 8 := Elem.of (i := Tryz.t3) (by kernel_rfl) (by kernel_rfl) (by kernel_rfl) (by kernel_rfl) (by kernel_rfl) (by decide) (by decide)
theorem el42 : Elem Tryz.prog 42 5 40 := Elem.of (i := Tryz.t42) (by kernel_rfl) (by kernel_rfl) (by kernel_rfl) (by kernel_rfl) (by kernel_rfl) (by decide) (by decide)
theorem el180 : Elem Tryz.prog 180 3 24 := Elem.of (i := Tryz.t180) (by kernel_rfl) (by kernel_rfl) (by kernel_rfl) (by kernel_rfl) (by kernel_rfl) (by decide) (by decide)
theorem el154 : Elem Tryz.prog 154 4 32 := Elem.of (i := Tryz.t154) (by kernel_rfl) (by kernel_rfl) (by kernel_rfl) (by kernel_rfl) (by kernel_rfl) (by decide) (by decide)
theorem el156 : Elem Tryz.prog 156 32 256 := Elem.of (i := Tryz.t156) (by kernel_rfl) (by kernel_rfl) (by kernel_rfl) (by kernel_rfl) (by kernel_rfl) (by decide) (by decide)
theorem el4 : Elem Tryz.prog 4 1 1 := Elem.of (i := Tryz.t4) (by kernel_rfl) (by kernel_rfl) (by kernel_rfl) (by kernel_rfl) (by kernel_rfl) (by decide) (by decide)
theorem el5 : Elem Tryz.prog 5 1 1 := Elem.of (i := Tryz.t5) (by kernel_rfl) (by kernel_rfl) (by kernel_rfl) (by kernel_rfl) (by kernel_rfl) (by decide) (by decide)
theorem slices_Index_int_int_ok (w : World) (v0 : Value) (p0 : List Int) (p1 : Int) (r : Int) (hF : slices_Index_int_int p0 p1 = some r)
    (hst : St w (fp []) w []) (h0 : Rd w (fp []) v0 (encInt .i64) 1 p0) :
    Calls Tryz.prog 71 [v0, I p1].toArray w (fun e w' => e = .returned (I r) ∧ St w (fp []) w' []) := by
 refine CW.start (N := 19) Tryz.func71 rfl rfl rfl ?_
 obtain ⟨l1, a2, c3, rfl⟩ := h0.len
 refine rg ?_
 refine pu 1 [] (nx (CW.seq (rg ?_)))
 refine pu 3 [(7, I ((p0).length : Int)), (8, I 0)] (nx ?_)
 obtain ⟨o52, ho53, hF⟩ := bs hF
 refine CW.cutK (fun a w1 => ∃ (t54 : Unit), o52 = .inl t54 ∧ Rep 19 [] a ∧ St w (fp []) w1 []) ?_ ?_
 ·refine CW.block ?_
  refine CW.loop (fun n a w1 => ∃ (i87 : Nat) (s86 : Unit), i87 + n = (p0).length ∧ Rep 19 [(0, .slice a2 (p0).length c3), (1, I p1), (7, I ((p0).length : Int)), (8, I (i87 : Int))] a ∧ St w (fp []) w1 [] ∧ forN (slices_Index_int_int_l1 p0 p1) (fun (s86 : Unit) => (.inl ())) n i87 s86 = some o52) (p0).length (fun a ha => ⟨0, (), Nat.zero_add _, ha.ag, hst.keep [] rfl, ho53⟩) ?_
  rintro n84 a w1 ⟨i87, s86, hi88, ha, hst, hl85⟩
  refine CW.go ?_ ha
  refine rg ?_
  refine pu 1 [(9, .bool (decide ((i87 : Int) < ((p0).length : Int))))] (nx (CW.seq ?_))
  rcases bft (decide ((i87 : Int) < ((p0).length : Int))) with hc89 | hc89
  ·rcases n84 with _ | n84
   ·exact (cnt0 hi88 hc89).elim
   refine CW.cond_t rfl hc89 (CW.skip (QW.next (CW.seq (CW.block (rg ?_)))))
   refine pu 2 [(5, I (i87 : Int))] (nx (rg ?_))
   refine pu 3 [(11, I p1), (12, .slice a2 (p0).length c3), (13, I (i87 : Int))] ?_
   obtain ⟨x96, hx97, hl85⟩ := bs hl85
   obtain ⟨g99, o100, c101, hv98⟩ := h0.formv (fun _ => ⟨_, rfl⟩) hx97
   refine OW.idx 3 1 rfl rfl rfl rfl hv98 rfl (idx_some hx97).1 (idx_some hx97).2.1 (by kernel_rfl) (by kernel_rfl) ?_
   refine OW.ld rfl rfl rfl rfl (by kernel_rfl) (h0.cellv hst hx97 hv98 0 _ rfl) ?_
   refine pu 1 [(16, .bool (p1 == x96))] (nx ?_)
   refine br ((p1 == x96)) hl85 (fun hl85 hc102 => ?_) (fun hl85 hc102 => ?_)
   ·refine rg ?_
    refine pu 2 [(4, I (i87 : Int))] (nx (CW.ret (QW.block_ret (QW.then_ret (QW.then_ret (QW.block_ret (QW.then_ret ?_)))))))
    obtain rfl := inj hl85
    obtain rfl := inj hF
    refine QW.ret1 rfl rfl ?_
    exact ⟨rfl, hst.keep [] rfl⟩
   refine CW.skip (QW.block_normal (QW.next (CW.region ?_)))
   refine pu 2 [(8, I (w64 ((i87 : Int) + 1)))] (OW.nil rfl ?_)
   refine QW.say 8 rfl (congrArg (Value.int .i64) (w64_cnt hc89 l1)) ?_
   exact QW.meet (fun a ha => ⟨n84, Nat.lt_succ_self _, i87 + 1, (), cnt_next hi88, ha.ag, hst.keep [] rfl, hl85⟩)
  rcases n84 with _ | n84
  ·refine CW.cond_f rfl hc89 ?_
   refine CW.exit (QW.then_exit (QW.then_exit ?_))
   refine QW.block_here ?_
   obtain rfl := inj hl85
   exact QW.meet (fun a ha => ⟨(), rfl, ha.ag, hst.keep [] rfl⟩)
  exact (cnt1 hi88 hc89).elim
 rintro a w1 ⟨t54, rfl, ha, hst⟩
 refine CW.go ?_ ha
 refine rg ?_
 refine pu 1 [(4, I (-1))] (nx (CW.ret ?_))
 obtain rfl := inj hF
 refine QW.ret1 rfl rfl ?_
 exact ⟨rfl, hst.keep [] rfl⟩
theorem slices_Contains_int_int_ok (w : World) (v0 : Value) (p0 : List Int) (p1 : Int) (r : Bool) (hF : slices_Contains_int_int p0 p1 = some r)
    (hst : St w (fp []) w []) (h0 : Rd w (fp []) v0 (encInt .i64) 1 p0) :
    Calls Tryz.prog 35 [v0, I p1].toArray w (fun e w' => e = .returned (.bool r) ∧ St w (fp []) w' []) := by
 refine CW.start (N := 9) Tryz.func35 rfl rfl rfl ?_
 obtain ⟨l1, a2, c3, rfl⟩ := h0.len
 refine rg ?_
 refine pu 1 [] (nx (rg ?_))
 refine pu 2 [(5, .slice a2 (p0).length c3), (6, I p1)] ?_
 obtain ⟨r8, hr9, hF⟩ := bs hF
 refine OW.fn rfl rfl rfl rfl (by kernel_rfl) (slices_Index_int_int_ok _ (.slice a2 (p0).length c3) p0 p1 r8 hr9 (hst.part [] rfl) (h0.give hst [])) ?_
 rintro e w10 ⟨rfl, hst11⟩
 refine ⟨_, rfl, ?_⟩
 have hst := hst.join (idx := []) (rest := []) rfl hst11
 refine pu 2 [(4, .bool (decide (r8 ≥ 0)))] (nx (CW.ret ?_))
 obtain rfl := inj hF
 refine QW.ret1 rfl rfl ?_
 exact ⟨rfl, hst.keep [] rfl⟩
theorem hooks_New_ok (w : World) (p0 : Int) (r : (Option hooks_Table) × Int) (hF : hooks_New p0 = some r)
    (hst : St w (fp []) w []) :
    Calls Tryz.prog 30 [I p0].toArray w (fun e w' => (∃ (k0 : hooks_Table) (y0 : Value) (z0 : List Nat), r.1 = some k0 ∧ e = .returned (.tuple #[y0, I r.2]) ∧ St w (fp []) w' [itI R_t53 [y0] z0 k0]) ∨ (r.1 = none ∧ e = .returned (.tuple #[.pointer none, I r.2]) ∧ St w (fp []) w' [])) := by
 refine CW.start (N := 14) Tryz.func30 rfl rfl rfl (rg ?_)
 refine pu 2 [] (nx (CW.seq (CW.seq ?_)))
 refine CW.cutK (fun a w1 => Rep 14 [(0, I p0), (9, .bool (decide (p0 < 1) || decide (p0 > 4)))] a ∧ St w (fp []) w1 []) ?_ ?_
 ·refine CW.region ?_
  refine pu 3 [(6, .bool (decide (p0 < 1)))] ?_
  refine OW.split 6 rfl (fun hc1 => ?_) (fun hc1 => ?_)
  ·refine pu 3 [(9, .bool true)] (OW.nil rfl ?_)
   refine QW.say 9 (v := .bool (decide (p0 < 1) || decide (p0 > 4))) rfl (by first | (rw [hc1]; done) | (rw [hc1]; rfl) | simp [hc1]) ?_
   exact QW.meet (fun a ha => ⟨ha.ag, hst.keep [] rfl⟩)
  refine pu 3 [(9, .bool (decide (p0 > 4)))] (OW.nil rfl ?_)
  refine QW.say 9 (v := .bool (decide (p0 < 1) || decide (p0 > 4))) rfl (by first | (rw [hc1]; done) | (rw [hc1]; rfl) | simp [hc1]) ?_
  exact QW.meet (fun a ha => ⟨ha.ag, hst.keep [] rfl⟩)
 rintro a w1 ⟨ha, hst⟩
 refine CW.go ?_ ha
 refine br ((decide (p0 < 1) || decide (p0 > 4))) hF (fun hF hc2 => ?_) (fun hF hc2 => ?_)
 ·refine rg ?_
  refine pu 2 [(2, .pointer none), (3, I 2)] (nx (CW.ret (QW.then_ret ?_)))
  obtain rfl := inj hF
  refine QW.ret2 rfl rfl rfl ?_
  exact .inr ⟨rfl, rfl, hst.keep [] rfl⟩
 refine CW.skip (QW.next (rg ?_))
 refine pu 1 [(10, I p0)] ?_
 obtain ⟨m9, hm10, hF⟩ := bs hF
 refine OW.make (enc := enc_hooks_published) (sz := 2) hst rfl rfl rfl rfl rfl (by kernel_rfl) el165 (hooks_published.mk 0 0) (by kernel_rfl) (fun _ => rfl) hm10 ?_
 intro g11 w12 hst
 refine pu 1 [(12, .agg [I 0, .slice (some ⟨g11, 0, none⟩) m9 m9].toArray)] ?_
 refine OW.box hst rfl rfl rfl rfl [I 0, .slice (some ⟨g11, 0, none⟩) m9 m9] rfl ?_
 intro b13 w14 hst
 refine pu 2 [(2, Pt b13), (3, I 0)] (nx (CW.ret ?_))
 have hst := hst.toIt 0 rfl (fun _ => rfl) (by decide)
 obtain ⟨S15, hst⟩ := hst.shutP1 R_t69 rfl 1 0 [] rfl rfl rfl (hooks_Table.mk (hooks_Versions.mk 0) (List.replicate m9 (hooks_published.mk 0 0))) rfl rfl
 obtain rfl := inj hF
 refine QW.ret2 rfl rfl rfl ?_
 exact .inl ⟨_, (Pt b13), S15, rfl, rfl, hst.keep [0] rfl⟩
theorem refs_New_ok (w : World) (p0 : Int) (r : (Option refs_Refs) × Int) (hF : refs_New p0 = some r)
    (hst : St w (fp []) w []) :
    Calls Tryz.prog 31 [I p0].toArray w (fun e w' => (∃ (k0 : refs_Refs) (y0 : Value) (z0 : List Nat), r.1 = some k0 ∧ e = .returned (.tuple #[y0, I r.2]) ∧ St w (fp []) w' [itI R_t54 [y0] z0 k0]) ∨ (r.1 = none ∧ e = .returned (.tuple #[.pointer none, I r.2]) ∧ St w (fp []) w' [])) := by
 refine CW.start (N := 14) Tryz.func31 rfl rfl rfl (rg ?_)
 refine pu 2 [] (nx (CW.seq (CW.seq ?_)))
 refine CW.cutK (fun a w1 => Rep 14 [(0, I p0), (9, .bool (decide (p0 < 0) || decide (p0 > 4)))] a ∧ St w (fp []) w1 []) ?_ ?_
 ·refine CW.region ?_
  refine pu 3 [(6, .bool (decide (p0 < 0)))] ?_
  refine OW.split 6 rfl (fun hc1 => ?_) (fun hc1 => ?_)
  ·refine pu 3 [(9, .bool true)] (OW.nil rfl ?_)
   refine QW.say 9 (v := .bool (decide (p0 < 0) || decide (p0 > 4))) rfl (by first | (rw [hc1]; done) | (rw [hc1]; rfl) | simp [hc1]) ?_
   exact QW.meet (fun a ha => ⟨ha.ag, hst.keep [] rfl⟩)
  refine pu 3 [(9, .bool (decide (p0 > 4)))] (OW.nil rfl ?_)
  refine QW.say 9 (v := .bool (decide (p0 < 0) || decide (p0 > 4))) rfl (by first | (rw [hc1]; done) | (rw [hc1]; rfl) | simp [hc1]) ?_
  exact QW.meet (fun a ha => ⟨ha.ag, hst.keep [] rfl⟩)
 rintro a w1 ⟨ha, hst⟩
 refine CW.go ?_ ha
 refine br ((decide (p0 < 0) || decide (p0 > 4))) hF (fun hF hc2 => ?_) (fun hF hc2 => ?_)
 ·refine rg ?_
  refine pu 2 [(2, .pointer none), (3, I 2)] (nx (CW.ret (QW.then_ret ?_)))
  obtain rfl := inj hF
  refine QW.ret2 rfl rfl rfl ?_
  exact .inr ⟨rfl, rfl, hst.keep [] rfl⟩
 refine CW.skip (QW.next (rg ?_))
 refine pu 1 [(10, I p0)] ?_
 refine OW.mnewN R_t28 hst rfl rfl rfl ?_
 intro r7 w8 hst
 refine pu 1 [(12, .agg [I p0, .map (some r7)].toArray)] ?_
 refine OW.box hst rfl rfl rfl rfl [I p0, .map (some r7)] rfl ?_
 intro b9 w10 hst
 refine pu 2 [(2, Pt b9), (3, I 0)] (nx (CW.ret ?_))
 have hst := hst.ofMN 0 rfl
 obtain ⟨S11, hst⟩ := hst.shutP1 R_t112 rfl 1 0 [] rfl rfl rfl (refs_Refs.mk p0 ([] : List (Int × (List Int)))) rfl rfl
 obtain rfl := inj hF
 refine QW.ret2 rfl rfl rfl ?_
 exact .inl ⟨_, (Pt b9), S11, rfl, rfl, hst.keep [0] rfl⟩
theorem epoch_New_ok (w : World) (p0 : Int) (r : (Option epoch_Clock) × Int) (hF : epoch_New p0 = some r)
    (hst : St w (fp []) w []) :
    Calls Tryz.prog 32 [I p0].toArray w (fun e w' => (∃ (k0 : epoch_Clock) (y0 : Value) (z0 : List Nat), r.1 = some k0 ∧ e = .returned (.tuple #[y0, I r.2]) ∧ St w (fp []) w' [itI R_t55 [y0] z0 k0]) ∨ (r.1 = none ∧ e = .returned (.tuple #[.pointer none, I r.2]) ∧ St w (fp []) w' [])) := by
 refine CW.start (N := 14) Tryz.func32 rfl rfl rfl (rg ?_)
 refine pu 2 [] (nx (CW.seq (CW.seq ?_)))
 refine CW.cutK (fun a w1 => Rep 14 [(0, I p0), (9, .bool (decide (p0 < 1) || decide (p0 > 4)))] a ∧ St w (fp []) w1 []) ?_ ?_
 ·refine CW.region ?_
  refine pu 3 [(6, .bool (decide (p0 < 1)))] ?_
  refine OW.split 6 rfl (fun hc1 => ?_) (fun hc1 => ?_)
  ·refine pu 3 [(9, .bool true)] (OW.nil rfl ?_)
   refine QW.say 9 (v := .bool (decide (p0 < 1) || decide (p0 > 4))) rfl (by first | (rw [hc1]; done) | (rw [hc1]; rfl) | simp [hc1]) ?_
   exact QW.meet (fun a ha => ⟨ha.ag, hst.keep [] rfl⟩)
  refine pu 3 [(9, .bool (decide (p0 > 4)))] (OW.nil rfl ?_)
  refine QW.say 9 (v := .bool (decide (p0 < 1) || decide (p0 > 4))) rfl (by first | (rw [hc1]; done) | (rw [hc1]; rfl) | simp [hc1]) ?_
  exact QW.meet (fun a ha => ⟨ha.ag, hst.keep [] rfl⟩)
 rintro a w1 ⟨ha, hst⟩
 refine CW.go ?_ ha
 refine br ((decide (p0 < 1) || decide (p0 > 4))) hF (fun hF hc2 => ?_) (fun hF hc2 => ?_)
 ·refine rg ?_
  refine pu 2 [(2, .pointer none), (3, I 2)] (nx (CW.ret (QW.then_ret ?_)))
  obtain rfl := inj hF
  refine QW.ret2 rfl rfl rfl ?_
  exact .inr ⟨rfl, rfl, hst.keep [] rfl⟩
 refine CW.skip (QW.next (rg ?_))
 refine pu 1 [(10, I p0)] ?_
 obtain ⟨m9, hm10, hF⟩ := bs hF
 refine OW.make (enc := encInt .i64) (sz := 1) hst rfl rfl rfl rfl rfl (by kernel_rfl) el3 0 (by kernel_rfl) (fun _ => rfl) hm10 ?_
 intro g11 w12 hst
 refine pu 1 [(12, .agg [I 1, .slice (some ⟨g11, 0, none⟩) m9 m9].toArray)] ?_
 refine OW.box hst rfl rfl rfl rfl [I 1, .slice (some ⟨g11, 0, none⟩) m9 m9] rfl ?_
 intro b13 w14 hst
 refine pu 2 [(2, Pt b13), (3, I 0)] (nx (CW.ret ?_))
 have hst := hst.toIt 0 rfl (fun _ => rfl) (by decide)
 obtain ⟨S15, hst⟩ := hst.shutP1 R_t106 rfl 1 0 [] rfl rfl rfl (epoch_Clock.mk 1 (List.replicate m9 0)) rfl rfl
 obtain rfl := inj hF
 refine QW.ret2 rfl rfl rfl ?_
 exact .inl ⟨_, (Pt b13), S15, rfl, rfl, hst.keep [0] rfl⟩
theorem registry_New_ok (w : World) (p0 : Int) (p1 : Int) (p2 : Int) (r : (Option registry_Registry) × Int) (hF : registry_New p0 p1 p2 = some r)
    (hst : St w (fp []) w []) :
    Calls Tryz.prog 9 [I p0, I p1, I p2].toArray w (fun e w' => (∃ (k0 : registry_Registry) (y0 : Value) (z0 : List Nat), r.1 = some k0 ∧ e = .returned (.tuple #[y0, I r.2]) ∧ St w (fp []) w' [itI R_t24 [y0] z0 k0]) ∨ (r.1 = none ∧ e = .returned (.tuple #[.pointer none, I r.2]) ∧ St w (fp []) w' [])) := by
 refine CW.start (N := 47) Tryz.func9 rfl rfl rfl (rg ?_)
 refine pu 2 [] (nx (rg ?_))
 refine pu 1 [(15, I p0)] ?_
 obtain ⟨r11, hr12, hF⟩ := bs hF
 refine OW.fn rfl rfl rfl rfl (by kernel_rfl) (hooks_New_ok _ p0 r11 hr12 (hst.part [] rfl)) ?_
 rintro e w13 (⟨k15, v17, S18, he16, rfl, hst14⟩ | ⟨he19, rfl, hst14⟩)
 ·have hF := ocase_some hF he16
  refine ⟨_, rfl, ?_⟩
  have hst := hst.join (idx := []) (rest := []) rfl hst14
  obtain ⟨b20, rfl⟩ := hst.fptr 0 rfl
  refine pu 5 [(8, Pt b20), (9, I r11.2)] (nx (rg ?_))
  refine pu 1 [(20, I p1)] ?_
  obtain ⟨r31, hr32, hF⟩ := bs hF
  refine OW.fn rfl rfl rfl rfl (by kernel_rfl) (refs_New_ok _ p1 r31 hr32 (hst.part [] rfl)) ?_
  rintro e w33 (⟨k35, v37, S38, he36, rfl, hst34⟩ | ⟨he39, rfl, hst34⟩)
  ·have hF := ocase_some hF he36
   refine ⟨_, rfl, ?_⟩
   have hst := hst.join (idx := []) (rest := [0]) rfl hst34
   obtain ⟨b40, rfl⟩ := hst.fptr 0 rfl
   refine pu 5 [(10, Pt b40), (11, I r31.2)] (nx (rg ?_))
   refine pu 1 [(25, I p2)] ?_
   obtain ⟨r51, hr52, hF⟩ := bs hF
   refine OW.fn rfl rfl rfl rfl (by kernel_rfl) (epoch_New_ok _ p2 r51 hr52 (hst.part [] rfl)) ?_
   rintro e w53 (⟨k55, v57, S58, he56, rfl, hst54⟩ | ⟨he59, rfl, hst54⟩)
   ·have hF := ocase_some hF he56
    refine ⟨_, rfl, ?_⟩
    have hst := hst.join (idx := []) (rest := [0, 1]) rfl hst54
    obtain ⟨b60, rfl⟩ := hst.fptr 0 rfl
    refine pu 5 [(12, Pt b60), (13, I r51.2)] (nx (CW.seq (CW.seq ?_)))
    refine CW.cutK (fun a w1 => Rep 47 [(0, I p0), (1, I p1), (8, Pt b20), (10, Pt b40), (12, Pt b60), (38, .bool (((r11.2 != 0) || (r31.2 != 0)) || (r51.2 != 0)))] a ∧ St w (fp []) w1 [itI R_t55 [Pt b60] S58 k55, itI R_t54 [Pt b40] S38 k35, itI R_t53 [Pt b20] S18 k15]) ?_ ?_
    ·refine CW.region ?_
     refine pu 3 [(31, .bool (r11.2 != 0))] ?_
     refine OW.split 31 rfl (fun hc61 => ?_) (fun hc61 => ?_)
     ·refine pu 7 [(38, .bool true)] (OW.nil rfl ?_)
      refine QW.say 38 (v := .bool (((r11.2 != 0) || (r31.2 != 0)) || (r51.2 != 0))) rfl (by first | (rw [hc61]; done) | (rw [hc61]; rfl) | simp [hc61]) ?_
      exact QW.meet (fun a ha => ⟨ha.ag, hst.keep [0, 1, 2] rfl⟩)
     refine pu 4 [(35, .bool (r31.2 != 0))] ?_
     refine OW.split 35 rfl (fun hc62 => ?_) (fun hc62 => ?_)
     ·refine pu 3 [(38, .bool true)] (OW.nil rfl ?_)
      refine QW.say 38 (v := .bool (((r11.2 != 0) || (r31.2 != 0)) || (r51.2 != 0))) rfl (by first | (rw [hc61, hc62]; done) | (rw [hc61, hc62]; rfl) | simp [hc61, hc62]) ?_
      exact QW.meet (fun a ha => ⟨ha.ag, hst.keep [0, 1, 2] rfl⟩)
     refine pu 3 [(38, .bool (r51.2 != 0))] (OW.nil rfl ?_)
     refine QW.say 38 (v := .bool (((r11.2 != 0) || (r31.2 != 0)) || (r51.2 != 0))) rfl (by first | (rw [hc61, hc62]; done) | (rw [hc61, hc62]; rfl) | simp [hc61, hc62]) ?_
     exact QW.meet (fun a ha => ⟨ha.ag, hst.keep [0, 1, 2] rfl⟩)
    rintro a w1 ⟨ha, hst⟩
    refine CW.go ?_ ha
    refine br ((((r11.2 != 0) || (r31.2 != 0)) || (r51.2 != 0))) hF (fun hF hc63 => ?_) (fun hF hc63 => ?_)
    ·refine rg ?_
     refine pu 2 [(6, .pointer none), (7, I 2)] (nx (CW.ret (QW.then_ret ?_)))
     obtain rfl := inj hF
     refine QW.ret2 rfl rfl rfl ?_
     exact .inr ⟨rfl, rfl, hst.keep [] rfl⟩
    refine CW.skip (QW.next (rg ?_))
    refine pu 5 [(39, Pt b20), (40, Pt b40), (41, Pt b60), (42, I p0), (43, I p1)] ?_
    refine OW.mnewN R_t95 hst rfl rfl rfl ?_
    intro r68 w69 hst
    refine pu 1 [(45, .agg [Pt b20, Pt b40, Pt b60, I p0, I p1, I 0, .map (some r68), .slice none 0 0].toArray)] ?_
    refine OW.box hst rfl rfl rfl rfl [Pt b20, Pt b40, Pt b60, I p0, I p1, I 0, .map (some r68), .slice none 0 0] rfl ?_
    intro b70 w71 hst
    refine pu 2 [(6, Pt b70), (7, I 0)] (nx (CW.ret ?_))
    have hst := hst.nilRow Int 3 (encInt .i64) 1
    have hst := hst.ofMN 3 rfl
    have hst := hst.toIt 5 rfl (fun _ => rfl) (by decide)
    obtain ⟨S72, hst⟩ := hst.shutP5 R_t58 rfl 4 2 1 0 3 5 [] rfl rfl rfl rfl rfl rfl rfl (registry_Registry.mk k15 k35 k55 p0 p1 0 ([] : List (Int × registry_program)) ([] : List Int)) rfl rfl
    obtain rfl := inj hF
    refine QW.ret2 rfl rfl rfl ?_
    exact .inl ⟨_, (Pt b70), S72, rfl, rfl, hst.keep [0] rfl⟩
   have hF := ocase_none hF he59
   refine ⟨_, rfl, ?_⟩
   have hst := hst.join (idx := []) (rest := [0, 1]) rfl hst54
   refine pu 5 [(12, .pointer none), (13, I r51.2)] (nx (CW.seq (CW.seq ?_)))
   refine CW.cutK (fun a w1 => Rep 47 [(0, I p0), (1, I p1), (8, Pt b20), (10, Pt b40), (12, .pointer none), (38, .bool (((r11.2 != 0) || (r31.2 != 0)) || (r51.2 != 0)))] a ∧ St w (fp []) w1 [itI R_t54 [Pt b40] S38 k35, itI R_t53 [Pt b20] S18 k15]) ?_ ?_
   ·refine CW.region ?_
    refine pu 3 [(31, .bool (r11.2 != 0))] ?_
    refine OW.split 31 rfl (fun hc73 => ?_) (fun hc73 => ?_)
    ·refine pu 7 [(38, .bool true)] (OW.nil rfl ?_)
     refine QW.say 38 (v := .bool (((r11.2 != 0) || (r31.2 != 0)) || (r51.2 != 0))) rfl (by first | (rw [hc73]; done) | (rw [hc73]; rfl) | simp [hc73]) ?_
     exact QW.meet (fun a ha => ⟨ha.ag, hst.keep [0, 1] rfl⟩)
    refine pu 4 [(35, .bool (r31.2 != 0))] ?_
    refine OW.split 35 rfl (fun hc74 => ?_) (fun hc74 => ?_)
    ·refine pu 3 [(38, .bool true)] (OW.nil rfl ?_)
     refine QW.say 38 (v := .bool (((r11.2 != 0) || (r31.2 != 0)) || (r51.2 != 0))) rfl (by first | (rw [hc73, hc74]; done) | (rw [hc73, hc74]; rfl) | simp [hc73, hc74]) ?_
     exact QW.meet (fun a ha => ⟨ha.ag, hst.keep [0, 1] rfl⟩)
    refine pu 3 [(38, .bool (r51.2 != 0))] (OW.nil rfl ?_)
    refine QW.say 38 (v := .bool (((r11.2 != 0) || (r31.2 != 0)) || (r51.2 != 0))) rfl (by first | (rw [hc73, hc74]; done) | (rw [hc73, hc74]; rfl) | simp [hc73, hc74]) ?_
    exact QW.meet (fun a ha => ⟨ha.ag, hst.keep [0, 1] rfl⟩)
   rintro a w1 ⟨ha, hst⟩
   refine CW.go ?_ ha
   refine br ((((r11.2 != 0) || (r31.2 != 0)) || (r51.2 != 0))) hF (fun hF hc75 => ?_) (fun hF hc75 => ?_)
   ·refine rg ?_
    refine pu 2 [(6, .pointer none), (7, I 2)] (nx (CW.ret (QW.then_ret ?_)))
    obtain rfl := inj hF
    refine QW.ret2 rfl rfl rfl ?_
    exact .inr ⟨rfl, rfl, hst.keep [] rfl⟩
   refine CW.skip (QW.next (rg ?_))
   refine pu 5 [(39, Pt b20), (40, Pt b40), (41, .pointer none), (42, I p0), (43, I p1)] ?_
   refine OW.mnewN R_t95 hst rfl rfl rfl ?_
   intro r80 w81 hst
   refine pu 1 [(45, .agg [Pt b20, Pt b40, .pointer none, I p0, I p1, I 0, .map (some r80), .slice none 0 0].toArray)] ?_
   refine OW.box hst rfl rfl rfl rfl [Pt b20, Pt b40, .pointer none, I p0, I p1, I 0, .map (some r80), .slice none 0 0] rfl ?_
   intro b82 w83 hst
   refine pu 2 [(6, Pt b82), (7, I 0)] (nx (CW.ret ?_))
   cases hF
  have hF := ocase_none hF he39
  refine ⟨_, rfl, ?_⟩
  have hst := hst.join (idx := []) (rest := [0]) rfl hst34
  refine pu 5 [(10, .pointer none), (11, I r31.2)] (nx (rg ?_))
  refine pu 1 [(25, I p2)] ?_
  obtain ⟨r94, hr95, hF⟩ := bs hF
  refine OW.fn rfl rfl rfl rfl (by kernel_rfl) (epoch_New_ok _ p2 r94 hr95 (hst.part [] rfl)) ?_
  rintro e w96 (⟨k98, v100, S101, he99, rfl, hst97⟩ | ⟨he102, rfl, hst97⟩)
  ·have hF := ocase_some hF he99
   refine ⟨_, rfl, ?_⟩
   have hst := hst.join (idx := []) (rest := [0]) rfl hst97
   obtain ⟨b103, rfl⟩ := hst.fptr 0 rfl
   refine pu 5 [(12, Pt b103), (13, I r94.2)] (nx (CW.seq (CW.seq ?_)))
   refine CW.cutK (fun a w1 => Rep 47 [(0, I p0), (1, I p1), (8, Pt b20), (10, .pointer none), (12, Pt b103), (38, .bool (((r11.2 != 0) || (r31.2 != 0)) || (r94.2 != 0)))] a ∧ St w (fp []) w1 [itI R_t55 [Pt b103] S101 k98, itI R_t53 [Pt b20] S18 k15]) ?_ ?_
   ·refine CW.region ?_
    refine pu 3 [(31, .bool (r11.2 != 0))] ?_
    refine OW.split 31 rfl (fun hc104 => ?_) (fun hc104 => ?_)
    ·refine pu 7 [(38, .bool true)] (OW.nil rfl ?_)
     refine QW.say 38 (v := .bool (((r11.2 != 0) || (r31.2 != 0)) || (r94.2 != 0))) rfl (by first | (rw [hc104]; done) | (rw [hc104]; rfl) | simp [hc104]) ?_
     exact QW.meet (fun a ha => ⟨ha.ag, hst.keep [0, 1] rfl⟩)
    refine pu 4 [(35, .bool (r31.2 != 0))] ?_
    refine OW.split 35 rfl (fun hc105 => ?_) (fun hc105 => ?_)
    ·refine pu 3 [(38, .bool true)] (OW.nil rfl ?_)
     refine QW.say 38 (v := .bool (((r11.2 != 0) || (r31.2 != 0)) || (r94.2 != 0))) rfl (by first | (rw [hc104, hc105]; done) | (rw [hc104, hc105]; rfl) | simp [hc104, hc105]) ?_
     exact QW.meet (fun a ha => ⟨ha.ag, hst.keep [0, 1] rfl⟩)
    refine pu 3 [(38, .bool (r94.2 != 0))] (OW.nil rfl ?_)
    refine QW.say 38 (v := .bool (((r11.2 != 0) || (r31.2 != 0)) || (r94.2 != 0))) rfl (by first | (rw [hc104, hc105]; done) | (rw [hc104, hc105]; rfl) | simp [hc104, hc105]) ?_
    exact QW.meet (fun a ha => ⟨ha.ag, hst.keep [0, 1] rfl⟩)
   rintro a w1 ⟨ha, hst⟩
   refine CW.go ?_ ha
   refine br ((((r11.2 != 0) || (r31.2 != 0)) || (r94.2 != 0))) hF (fun hF hc106 => ?_) (fun hF hc106 => ?_)
   ·refine rg ?_
    refine pu 2 [(6, .pointer none), (7, I 2)] (nx (CW.ret (QW.then_ret ?_)))
    obtain rfl := inj hF
    refine QW.ret2 rfl rfl rfl ?_
    exact .inr ⟨rfl, rfl, hst.keep [] rfl⟩
   refine CW.skip (QW.next (rg ?_))
   refine pu 5 [(39, Pt b20), (40, .pointer none), (41, Pt b103), (42, I p0), (43, I p1)] ?_
   refine OW.mnewN R_t95 hst rfl rfl rfl ?_
   intro r111 w112 hst
   refine pu 1 [(45, .agg [Pt b20, .pointer none, Pt b103, I p0, I p1, I 0, .map (some r111), .slice none 0 0].toArray)] ?_
   refine OW.box hst rfl rfl rfl rfl [Pt b20, .pointer none, Pt b103, I p0, I p1, I 0, .map (some r111), .slice none 0 0] rfl ?_
   intro b113 w114 hst
   refine pu 2 [(6, Pt b113), (7, I 0)] (nx (CW.ret ?_))
   cases hF
  have hF := ocase_none hF he102
  refine ⟨_, rfl, ?_⟩
  have hst := hst.join (idx := []) (rest := [0]) rfl hst97
  refine pu 5 [(12, .pointer none), (13, I r94.2)] (nx (CW.seq (CW.seq ?_)))
  refine CW.cutK (fun a w1 => Rep 47 [(0, I p0), (1, I p1), (8, Pt b20), (10, .pointer none), (12, .pointer none), (38, .bool (((r11.2 != 0) || (r31.2 != 0)) || (r94.2 != 0)))] a ∧ St w (fp []) w1 [itI R_t53 [Pt b20] S18 k15]) ?_ ?_
  ·refine CW.region ?_
   refine pu 3 [(31, .bool (r11.2 != 0))] ?_
   refine OW.split 31 rfl (fun hc115 => ?_) (fun hc115 => ?_)
   ·refine pu 7 [(38, .bool true)] (OW.nil rfl ?_)
    refine QW.say 38 (v := .bool (((r11.2 != 0) || (r31.2 != 0)) || (r94.2 != 0))) rfl (by first | (rw [hc115]; done) | (rw [hc115]; rfl) | simp [hc115]) ?_
    exact QW.meet (fun a ha => ⟨ha.ag, hst.keep [0] rfl⟩)
   refine pu 4 [(35, .bool (r31.2 != 0))] ?_
   refine OW.split 35 rfl (fun hc116 => ?_) (fun hc116 => ?_)
   ·refine pu 3 [(38, .bool true)] (OW.nil rfl ?_)
    refine QW.say 38 (v := .bool (((r11.2 != 0) || (r31.2 != 0)) || (r94.2 != 0))) rfl (by first | (rw [hc115, hc116]; done) | (rw [hc115, hc116]; rfl) | simp [hc115, hc116]) ?_
    exact QW.meet (fun a ha => ⟨ha.ag, hst.keep [0] rfl⟩)
   refine pu 3 [(38, .bool (r94.2 != 0))] (OW.nil rfl ?_)
   refine QW.say 38 (v := .bool (((r11.2 != 0) || (r31.2 != 0)) || (r94.2 != 0))) rfl (by first | (rw [hc115, hc116]; done) | (rw [hc115, hc116]; rfl) | simp [hc115, hc116]) ?_
   exact QW.meet (fun a ha => ⟨ha.ag, hst.keep [0] rfl⟩)
  rintro a w1 ⟨ha, hst⟩
  refine CW.go ?_ ha
  refine br ((((r11.2 != 0) || (r31.2 != 0)) || (r94.2 != 0))) hF (fun hF hc117 => ?_) (fun hF hc117 => ?_)
  ·refine rg ?_
   refine pu 2 [(6, .pointer none), (7, I 2)] (nx (CW.ret (QW.then_ret ?_)))
   obtain rfl := inj hF
   refine QW.ret2 rfl rfl rfl ?_
   exact .inr ⟨rfl, rfl, hst.keep [] rfl⟩
  refine CW.skip (QW.next (rg ?_))
  refine pu 5 [(39, Pt b20), (40, .pointer none), (41, .pointer none), (42, I p0), (43, I p1)] ?_
  refine OW.mnewN R_t95 hst rfl rfl rfl ?_
  intro r122 w123 hst
  refine pu 1 [(45, .agg [Pt b20, .pointer none, .pointer none, I p0, I p1, I 0, .map (some r122), .slice none 0 0].toArray)] ?_
  refine OW.box hst rfl rfl rfl rfl [Pt b20, .pointer none, .pointer none, I p0, I p1, I 0, .map (some r122), .slice none 0 0] rfl ?_
  intro b124 w125 hst
  refine pu 2 [(6, Pt b124), (7, I 0)] (nx (CW.ret ?_))
  cases hF
 have hF := ocase_none hF he19
 refine ⟨_, rfl, ?_⟩
 have hst := hst.join (idx := []) (rest := []) rfl hst14
 refine pu 5 [(8, .pointer none), (9, I r11.2)] (nx (rg ?_))
 refine pu 1 [(20, I p1)] ?_
 obtain ⟨r136, hr137, hF⟩ := bs hF
 refine OW.fn rfl rfl rfl rfl (by kernel_rfl) (refs_New_ok _ p1 r136 hr137 (hst.part [] rfl)) ?_
 rintro e w138 (⟨k140, v142, S143, he141, rfl, hst139⟩ | ⟨he144, rfl, hst139⟩)
 ·have hF := ocase_some hF he141
  refine ⟨_, rfl, ?_⟩
  have hst := hst.join (idx := []) (rest := []) rfl hst139
  obtain ⟨b145, rfl⟩ := hst.fptr 0 rfl
  refine pu 5 [(10, Pt b145), (11, I r136.2)] (nx (rg ?_))
  refine pu 1 [(25, I p2)] ?_
  obtain ⟨r156, hr157, hF⟩ := bs hF
  refine OW.fn rfl rfl rfl rfl (by kernel_rfl) (epoch_New_ok _ p2 r156 hr157 (hst.part [] rfl)) ?_
  rintro e w158 (⟨k160, v162, S163, he161, rfl, hst159⟩ | ⟨he164, rfl, hst159⟩)
  ·have hF := ocase_some hF he161
   refine ⟨_, rfl, ?_⟩
   have hst := hst.join (idx := []) (rest := [0]) rfl hst159
   obtain ⟨b165, rfl⟩ := hst.fptr 0 rfl
   refine pu 5 [(12, Pt b165), (13, I r156.2)] (nx (CW.seq (CW.seq ?_)))
   refine CW.cutK (fun a w1 => Rep 47 [(0, I p0), (1, I p1), (8, .pointer none), (10, Pt b145), (12, Pt b165), (38, .bool (((r11.2 != 0) || (r136.2 != 0)) || (r156.2 != 0)))] a ∧ St w (fp []) w1 [itI R_t55 [Pt b165] S163 k160, itI R_t54 [Pt b145] S143 k140]) ?_ ?_
   ·refine CW.region ?_
    refine pu 3 [(31, .bool (r11.2 != 0))] ?_
    refine OW.split 31 rfl (fun hc166 => ?_) (fun hc166 => ?_)
    ·refine pu 7 [(38, .bool true)] (OW.nil rfl ?_)
     refine QW.say 38 (v := .bool (((r11.2 != 0) || (r136.2 != 0)) || (r156.2 != 0))) rfl (by first | (rw [hc166]; done) | (rw [hc166]; rfl) | simp [hc166]) ?_
     exact QW.meet (fun a ha => ⟨ha.ag, hst.keep [0, 1] rfl⟩)
    refine pu 4 [(35, .bool (r136.2 != 0))] ?_
    refine OW.split 35 rfl (fun hc167 => ?_) (fun hc167 => ?_)
    ·refine pu 3 [(38, .bool true)] (OW.nil rfl ?_)
     refine QW.say 38 (v := .bool (((r11.2 != 0) || (r136.2 != 0)) || (r156.2 != 0))) rfl (by first | (rw [hc166, hc167]; done) | (rw [hc166, hc167]; rfl) | simp [hc166, hc167]) ?_
     exact QW.meet (fun a ha => ⟨ha.ag, hst.keep [0, 1] rfl⟩)
    refine pu 3 [(38, .bool (r156.2 != 0))] (OW.nil rfl ?_)
    refine QW.say 38 (v := .bool (((r11.2 != 0) || (r136.2 != 0)) || (r156.2 != 0))) rfl (by first | (rw [hc166, hc167]; done) | (rw [hc166, hc167]; rfl) | simp [hc166, hc167]) ?_
    exact QW.meet (fun a ha => ⟨ha.ag, hst.keep [0, 1] rfl⟩)
   rintro a w1 ⟨ha, hst⟩
   refine CW.go ?_ ha
   refine br ((((r11.2 != 0) || (r136.2 != 0)) || (r156.2 != 0))) hF (fun hF hc168 => ?_) (fun hF hc168 => ?_)
   ·refine rg ?_
    refine pu 2 [(6, .pointer none), (7, I 2)] (nx (CW.ret (QW.then_ret ?_)))
    obtain rfl := inj hF
    refine QW.ret2 rfl rfl rfl ?_
    exact .inr ⟨rfl, rfl, hst.keep [] rfl⟩
   refine CW.skip (QW.next (rg ?_))
   refine pu 5 [(39, .pointer none), (40, Pt b145), (41, Pt b165), (42, I p0), (43, I p1)] ?_
   refine OW.mnewN R_t95 hst rfl rfl rfl ?_
   intro r173 w174 hst
   refine pu 1 [(45, .agg [.pointer none, Pt b145, Pt b165, I p0, I p1, I 0, .map (some r173), .slice none 0 0].toArray)] ?_
   refine OW.box hst rfl rfl rfl rfl [.pointer none, Pt b145, Pt b165, I p0, I p1, I 0, .map (some r173), .slice none 0 0] rfl ?_
   intro b175 w176 hst
   refine pu 2 [(6, Pt b175), (7, I 0)] (nx (CW.ret ?_))
   cases hF
  have hF := ocase_none hF he164
  refine ⟨_, rfl, ?_⟩
  have hst := hst.join (idx := []) (rest := [0]) rfl hst159
  refine pu 5 [(12, .pointer none), (13, I r156.2)] (nx (CW.seq (CW.seq ?_)))
  refine CW.cutK (fun a w1 => Rep 47 [(0, I p0), (1, I p1), (8, .pointer none), (10, Pt b145), (12, .pointer none), (38, .bool (((r11.2 != 0) || (r136.2 != 0)) || (r156.2 != 0)))] a ∧ St w (fp []) w1 [itI R_t54 [Pt b145] S143 k140]) ?_ ?_
  ·refine CW.region ?_
   refine pu 3 [(31, .bool (r11.2 != 0))] ?_
   refine OW.split 31 rfl (fun hc177 => ?_) (fun hc177 => ?_)
   ·refine pu 7 [(38, .bool true)] (OW.nil rfl ?_)
    refine QW.say 38 (v := .bool (((r11.2 != 0) || (r136.2 != 0)) || (r156.2 != 0))) rfl (by first | (rw [hc177]; done) | (rw [hc177]; rfl) | simp [hc177]) ?_
    exact QW.meet (fun a ha => ⟨ha.ag, hst.keep [0] rfl⟩)
   refine pu 4 [(35, .bool (r136.2 != 0))] ?_
   refine OW.split 35 rfl (fun hc178 => ?_) (fun hc178 => ?_)
   ·refine pu 3 [(38, .bool true)] (OW.nil rfl ?_)
    refine QW.say 38 (v := .bool (((r11.2 != 0) || (r136.2 != 0)) || (r156.2 != 0))) rfl (by first | (rw [hc177, hc178]; done) | (rw [hc177, hc178]; rfl) | simp [hc177, hc178]) ?_
    exact QW.meet (fun a ha => ⟨ha.ag, hst.keep [0] rfl⟩)
   refine pu 3 [(38, .bool (r156.2 != 0))] (OW.nil rfl ?_)
   refine QW.say 38 (v := .bool (((r11.2 != 0) || (r136.2 != 0)) || (r156.2 != 0))) rfl (by first | (rw [hc177, hc178]; done) | (rw [hc177, hc178]; rfl) | simp [hc177, hc178]) ?_
   exact QW.meet (fun a ha => ⟨ha.ag, hst.keep [0] rfl⟩)
  rintro a w1 ⟨ha, hst⟩
  refine CW.go ?_ ha
  refine br ((((r11.2 != 0) || (r136.2 != 0)) || (r156.2 != 0))) hF (fun hF hc179 => ?_) (fun hF hc179 => ?_)
  ·refine rg ?_
   refine pu 2 [(6, .pointer none), (7, I 2)] (nx (CW.ret (QW.then_ret ?_)))
   obtain rfl := inj hF
   refine QW.ret2 rfl rfl rfl ?_
   exact .inr ⟨rfl, rfl, hst.keep [] rfl⟩
  refine CW.skip (QW.next (rg ?_))
  refine pu 5 [(39, .pointer none), (40, Pt b145), (41, .pointer none), (42, I p0), (43, I p1)] ?_
  refine OW.mnewN R_t95 hst rfl rfl rfl ?_
  intro r184 w185 hst
  refine pu 1 [(45, .agg [.pointer none, Pt b145, .pointer none, I p0, I p1, I 0, .map (some r184), .slice none 0 0].toArray)] ?_
  refine OW.box hst rfl rfl rfl rfl [.pointer none, Pt b145, .pointer none, I p0, I p1, I 0, .map (some r184), .slice none 0 0] rfl ?_
  intro b186 w187 hst
  refine pu 2 [(6, Pt b186), (7, I 0)] (nx (CW.ret ?_))
  cases hF
 have hF := ocase_none hF he144
 refine ⟨_, rfl, ?_⟩
 have hst := hst.join (idx := []) (rest := []) rfl hst139
 refine pu 5 [(10, .pointer none), (11, I r136.2)] (nx (rg ?_))
 refine pu 1 [(25, I p2)] ?_
 obtain ⟨r198, hr199, hF⟩ := bs hF
 refine OW.fn rfl rfl rfl rfl (by kernel_rfl) (epoch_New_ok _ p2 r198 hr199 (hst.part [] rfl)) ?_
 rintro e w200 (⟨k202, v204, S205, he203, rfl, hst201⟩ | ⟨he206, rfl, hst201⟩)
 ·have hF := ocase_some hF he203
  refine ⟨_, rfl, ?_⟩
  have hst := hst.join (idx := []) (rest := []) rfl hst201
  obtain ⟨b207, rfl⟩ := hst.fptr 0 rfl
  refine pu 5 [(12, Pt b207), (13, I r198.2)] (nx (CW.seq (CW.seq ?_)))
  refine CW.cutK (fun a w1 => Rep 47 [(0, I p0), (1, I p1), (8, .pointer none), (10, .pointer none), (12, Pt b207), (38, .bool (((r11.2 != 0) || (r136.2 != 0)) || (r198.2 != 0)))] a ∧ St w (fp []) w1 [itI R_t55 [Pt b207] S205 k202]) ?_ ?_
  ·refine CW.region ?_
   refine pu 3 [(31, .bool (r11.2 != 0))] ?_
   refine OW.split 31 rfl (fun hc208 => ?_) (fun hc208 => ?_)
   ·refine pu 7 [(38, .bool true)] (OW.nil rfl ?_)
    refine QW.say 38 (v := .bool (((r11.2 != 0) || (r136.2 != 0)) || (r198.2 != 0))) rfl (by first | (rw [hc208]; done) | (rw [hc208]; rfl) | simp [hc208]) ?_
    exact QW.meet (fun a ha => ⟨ha.ag, hst.keep [0] rfl⟩)
   refine pu 4 [(35, .bool (r136.2 != 0))] ?_
   refine OW.split 35 rfl (fun hc209 => ?_) (fun hc209 => ?_)
   ·refine pu 3 [(38, .bool true)] (OW.nil rfl ?_)
    refine QW.say 38 (v := .bool (((r11.2 != 0) || (r136.2 != 0)) || (r198.2 != 0))) rfl (by first | (rw [hc208, hc209]; done) | (rw [hc208, hc209]; rfl) | simp [hc208, hc209]) ?_
    exact QW.meet (fun a ha => ⟨ha.ag, hst.keep [0] rfl⟩)
   refine pu 3 [(38, .bool (r198.2 != 0))] (OW.nil rfl ?_)
   refine QW.say 38 (v := .bool (((r11.2 != 0) || (r136.2 != 0)) || (r198.2 != 0))) rfl (by first | (rw [hc208, hc209]; done) | (rw [hc208, hc209]; rfl) | simp [hc208, hc209]) ?_
   exact QW.meet (fun a ha => ⟨ha.ag, hst.keep [0] rfl⟩)
  rintro a w1 ⟨ha, hst⟩
  refine CW.go ?_ ha
  refine br ((((r11.2 != 0) || (r136.2 != 0)) || (r198.2 != 0))) hF (fun hF hc210 => ?_) (fun hF hc210 => ?_)
  ·refine rg ?_
   refine pu 2 [(6, .pointer none), (7, I 2)] (nx (CW.ret (QW.then_ret ?_)))
   obtain rfl := inj hF
   refine QW.ret2 rfl rfl rfl ?_
   exact .inr ⟨rfl, rfl, hst.keep [] rfl⟩
  refine CW.skip (QW.next (rg ?_))
  refine pu 5 [(39, .pointer none), (40, .pointer none), (41, Pt b207), (42, I p0), (43, I p1)] ?_
  refine OW.mnewN R_t95 hst rfl rfl rfl ?_
  intro r215 w216 hst
  refine pu 1 [(45, .agg [.pointer none, .pointer none, Pt b207, I p0, I p1, I 0, .map (some r215), .slice none 0 0].toArray)] ?_
  refine OW.box hst rfl rfl rfl rfl [.pointer none, .pointer none, Pt b207, I p0, I p1, I 0, .map (some r215), .slice none 0 0] rfl ?_
  intro b217 w218 hst
  refine pu 2 [(6, Pt b217), (7, I 0)] (nx (CW.ret ?_))
  cases hF
 have hF := ocase_none hF he206
 refine ⟨_, rfl, ?_⟩
 have hst := hst.join (idx := []) (rest := []) rfl hst201
 refine pu 5 [(12, .pointer none), (13, I r198.2)] (nx (CW.seq (CW.seq ?_)))
 refine CW.cutK (fun a w1 => Rep 47 [(0, I p0), (1, I p1), (8, .pointer none), (10, .pointer none), (12, .pointer none), (38, .bool (((r11.2 != 0) || (r136.2 != 0)) || (r198.2 != 0)))] a ∧ St w (fp []) w1 []) ?_ ?_
 ·refine CW.region ?_
  refine pu 3 [(31, .bool (r11.2 != 0))] ?_
  refine OW.split 31 rfl (fun hc219 => ?_) (fun hc219 => ?_)
  ·refine pu 7 [(38, .bool true)] (OW.nil rfl ?_)
   refine QW.say 38 (v := .bool (((r11.2 != 0) || (r136.2 != 0)) || (r198.2 != 0))) rfl (by first | (rw [hc219]; done) | (rw [hc219]; rfl) | simp [hc219]) ?_
   exact QW.meet (fun a ha => ⟨ha.ag, hst.keep [] rfl⟩)
  refine pu 4 [(35, .bool (r136.2 != 0))] ?_
  refine OW.split 35 rfl (fun hc220 => ?_) (fun hc220 => ?_)
  ·refine pu 3 [(38, .bool true)] (OW.nil rfl ?_)
   refine QW.say 38 (v := .bool (((r11.2 != 0) || (r136.2 != 0)) || (r198.2 != 0))) rfl (by first | (rw [hc219, hc220]; done) | (rw [hc219, hc220]; rfl) | simp [hc219, hc220]) ?_
   exact QW.meet (fun a ha => ⟨ha.ag, hst.keep [] rfl⟩)
  refine pu 3 [(38, .bool (r198.2 != 0))] (OW.nil rfl ?_)
  refine QW.say 38 (v := .bool (((r11.2 != 0) || (r136.2 != 0)) || (r198.2 != 0))) rfl (by first | (rw [hc219, hc220]; done) | (rw [hc219, hc220]; rfl) | simp [hc219, hc220]) ?_
  exact QW.meet (fun a ha => ⟨ha.ag, hst.keep [] rfl⟩)
 rintro a w1 ⟨ha, hst⟩
 refine CW.go ?_ ha
 refine br ((((r11.2 != 0) || (r136.2 != 0)) || (r198.2 != 0))) hF (fun hF hc221 => ?_) (fun hF hc221 => ?_)
 ·refine rg ?_
  refine pu 2 [(6, .pointer none), (7, I 2)] (nx (CW.ret (QW.then_ret ?_)))
  obtain rfl := inj hF
  refine QW.ret2 rfl rfl rfl ?_
  exact .inr ⟨rfl, rfl, hst.keep [] rfl⟩
 refine CW.skip (QW.next (rg ?_))
 refine pu 5 [(39, .pointer none), (40, .pointer none), (41, .pointer none), (42, I p0), (43, I p1)] ?_
 refine OW.mnewN R_t95 hst rfl rfl rfl ?_
 intro r226 w227 hst
 refine pu 1 [(45, .agg [.pointer none, .pointer none, .pointer none, I p0, I p1, I 0, .map (some r226), .slice none 0 0].toArray)] ?_
 refine OW.box hst rfl rfl rfl rfl [.pointer none, .pointer none, .pointer none, I p0, I p1, I 0, .map (some r226), .slice none 0 0] rfl ?_
 intro b228 w229 hst
 refine pu 2 [(6, Pt b228), (7, I 0)] (nx (CW.ret ?_))
 cases hF
theorem tappetlaw24_five_ok (w : World)  (r : (List Int)) (hF : tappetlaw24_five  = some r)
    (hst : St w (fp []) w []) :
    Calls Tryz.prog 29 [].toArray w (fun e w' => ∃ (x0 : Nat), e = .returned (.slice (some ⟨x0, 0, none⟩) (r).length (r).length) ∧ St w (fp []) w' [frzI x0 (encInt .u8) 1 r]) := by
 refine CW.start (N := 3) Tryz.func29 rfl rfl rfl (rg ?_)
 refine pu 1 [] (nx (rg ?_))
 refine OW.row (α := Int) (e := 5) (enc := encInt .u8) (sz := 1) hst rfl rfl rfl [84, 80, 1, 1, 2, 2, 0, 0, 0, 8, 10, 22, 0, 0, 0, 0] rfl (fun _ => rfl) rfl rfl (fun _ => by kernel_rfl) ?_
 intro g4 w5 hst
 refine OW.mark (e := 5) hst 0 rfl rfl rfl rfl rfl (by kernel_rfl) (by kernel_rfl) (fun _ => rfl) rfl (by decide) ?_
 intro w6 hst
 refine pu 1 [(0, .slice (some ⟨g4, 0, none⟩) 16 16)] (nx (CW.ret ?_))
 obtain rfl := inj hF
 refine QW.ret1 rfl rfl ?_
 exact ⟨g4, rfl, hst.keep [0] rfl⟩
theorem wire_reader_fail_ok (w : World) (wb : World) (Sb : List Nat) (v0 : Value) (S0 : List Nat) (p0 : wire_reader) (p1 : Int) (r : wire_reader) (hF : wire_reader_fail p0 p1 = some r)
    (hst : St w (fp [itI (R_t84 wb Sb) [v0] S0 p0]) w [itI (R_t84 wb Sb) [v0] S0 p0]) (hb : Bor wb Sb w (fp [itI (R_t84 wb Sb) [v0] S0 p0])) :
    Calls Tryz.prog 36 [v0, I p1].toArray w (fun e w' => ∃ (s0 : List Nat), e = .returned (.tuple #[]) ∧ St w (fp [itI (R_t84 wb Sb) [v0] S0 p0]) w' [itI (R_t84 wb Sb) [v0] s0 r]) := by
 refine CW.start (N := 13) Tryz.func36 rfl rfl rfl ?_
 obtain ⟨b1, rfl⟩ := hst.fptr 0 rfl
 refine CW.seq ?_
 obtain ⟨v2, S3, hst⟩ := hst.openQ1 0 rfl rfl
 have hbo4 := hst.borOut 1 rfl
 have hbr5 := hbo4.bor hb
 have hst := hst.keep [0] rfl
 obtain ⟨l6, a7, c8, rfl⟩ := hbr5.len
 have hst : St _ _ _ [blkI b1 86 [.slice a7 (p0.b).length c8, I p0.at_, I p0.field, I p0.e]] := hst
 refine CW.region ?_
 refine pu 3 [(6, .pointer (some ⟨b1, 3, none⟩))] ?_
 refine OW.ld rfl rfl rfl rfl (by kernel_rfl) (hst.blk 0 rfl rfl) ?_
 refine pu 1 [(8, .bool (p0.e == 0))] (nx ?_)
 refine br ((p0.e == 0)) hF (fun hF hc9 => ?_) (fun hF hc9 => ?_)
 ·refine CW.region ?_
  refine pu 4 [(10, I p1), (12, .pointer (some ⟨b1, 3, none⟩))] ?_
  refine OW.stB hst 0 rfl rfl rfl rfl rfl (by kernel_rfl) rfl rfl [.slice a7 (p0.b).length c8, I p0.at_, I p0.field, I p1] rfl ?_
  intro w11 hst
  refine OW.nil rfl ?_
  have hst := hst.borIn hbo4
  obtain ⟨S12, hst⟩ := hst.shutP1 (R_t86 wb Sb) rfl 0 1 [] rfl rfl rfl (wire_reader.mk p0.b p0.at_ p0.field p1) rfl rfl
  obtain rfl := inj hF
  refine QW.end0 rfl ?_
  exact ⟨S12, rfl, hst.keep [0] rfl⟩
 refine CW.skip ?_
 have hst := hst.borIn hbo4
 obtain ⟨S13, hst⟩ := hst.shutP1 (R_t86 wb Sb) rfl 0 1 [] rfl rfl rfl p0 rfl rfl
 obtain rfl := inj hF
 refine QW.end0 rfl ?_
 exact ⟨S13, rfl, hst.keep [0] rfl⟩
theorem wire_reader_begin_ok (w : World) (wb : World) (Sb : List Nat) (fu : Nat) (v0 : Value) (S0 : List Nat) (p0 : wire_reader) (r : wire_reader) (hF : wire_reader_begin fu p0 = some r)
    (hst : St w (fp [itI (R_t84 wb Sb) [v0] S0 p0]) w [itI (R_t84 wb Sb) [v0] S0 p0]) (hb : Bor wb Sb w (fp [itI (R_t84 wb Sb) [v0] S0 p0])) :
    Calls Tryz.prog 33 [v0].toArray w (fun e w' => ∃ (s0 : List Nat), e = .returned (.tuple #[]) ∧ St w (fp [itI (R_t84 wb Sb) [v0] S0 p0]) w' [itI (R_t84 wb Sb) [v0] s0 r]) := by
 refine CW.start (N := 58) Tryz.func33 rfl rfl rfl ?_
 obtain ⟨b1, rfl⟩ := hst.fptr 0 rfl
 obtain ⟨o397, ho398, hF⟩ := bs hF
 refine CW.cutQ (fun a w1 => ∃ (S396 : List Nat), Rep 58 [] a ∧ St w (fp [itI (R_t84 wb Sb) [Pt b1] S0 p0]) w1 [itI (R_t84 wb Sb) [Pt b1] S396 o397]) ?_ ?_
 ·refine CW.block ?_
  refine CW.loop (fun n a w1 => ∃ (s662 : wire_reader) (S663 : List Nat), Rep 58 [(0, Pt b1)] a ∧ St w (fp [itI (R_t84 wb Sb) [Pt b1] S0 p0]) w1 [itI (R_t84 wb Sb) [Pt b1] S663 s662] ∧ loop wire_reader_begin_l1 n s662 = some o397) fu (fun a ha => ⟨p0, S0, ha.ag, hst.keep [0] rfl, ho398⟩) ?_
  rintro n660 a w1 ⟨s662, S663, ha, hst, hl661⟩
  rcases n660 with _ | n660
  ·exact (loop_zero hl661).elim
  refine CW.go ?_ ha
  refine CW.seq (CW.seq ?_)
  obtain ⟨v664, S665, hst⟩ := hst.openQ1 0 rfl rfl
  have hbo666 := hst.borOut 1 rfl
  have hbr667 := hbo666.bor hb
  have hst := hst.keep [0] rfl
  obtain ⟨l668, a669, c670, rfl⟩ := hbr667.len
  have hst : St _ _ _ [blkI b1 86 [.slice a669 (s662.b).length c670, I s662.at_, I s662.field, I s662.e]] := hst
  refine CW.cutK (fun a w1 => Rep 58 [(0, Pt b1), (13, .bool (decide (s662.at_ < 3) && (s662.e == 0)))] a ∧ St w (fp [itI (R_t84 wb Sb) [Pt b1] S0 p0]) w1 [blkI b1 86 [.slice a669 (s662.b).length c670, I s662.at_, I s662.field, I s662.e]]) ?_ ?_
  ·refine CW.region ?_
   refine pu 3 [(4, .pointer (some ⟨b1, 1, none⟩))] ?_
   refine OW.ld rfl rfl rfl rfl (by kernel_rfl) (hst.blk 0 rfl rfl) ?_
   refine pu 2 [(7, .bool (decide (s662.at_ < 3)))] ?_
   refine OW.split 7 rfl (fun hc671 => ?_) (fun hc671 => ?_)
   ·refine pu 3 [(10, .pointer (some ⟨b1, 3, none⟩))] ?_
    refine OW.ld rfl rfl rfl rfl (by kernel_rfl) (hst.blk 0 rfl rfl) ?_
    refine pu 2 [(13, .bool (s662.e == 0))] (OW.nil rfl ?_)
    refine QW.say 13 (v := .bool (decide (s662.at_ < 3) && (s662.e == 0))) rfl (by first | (rw [hc671]; done) | (rw [hc671]; rfl) | simp [hc671]) ?_
    exact QW.meet (fun a ha => ⟨ha.ag, hst.keep [0] rfl⟩)
   refine pu 6 [(13, .bool false)] (OW.nil rfl ?_)
   refine QW.say 13 (v := .bool (decide (s662.at_ < 3) && (s662.e == 0))) rfl (by first | (rw [hc671]; done) | (rw [hc671]; rfl) | simp [hc671]) ?_
   exact QW.meet (fun a ha => ⟨ha.ag, hst.keep [0] rfl⟩)
  rintro a w1 ⟨ha, hst⟩
  refine CW.go ?_ ha
  refine br ((decide (s662.at_ < 3) && (s662.e == 0))) hl661 (fun hl661 hc672 => ?_) (fun hl661 hc672 => ?_)
  ·refine CW.skip (QW.next (CW.seq ?_))
   obtain ⟨o727, ho728, hl661⟩ := bs hl661
   refine CW.cutK (fun a w1 => ∃ (S726 : List Nat), Rep 58 [(0, Pt b1)] a ∧ St w (fp [itI (R_t84 wb Sb) [Pt b1] S0 p0]) w1 [itI (R_t84 wb Sb) [Pt b1] S726 o727]) ?_ ?_
   ·refine CW.block (rg ?_)
    refine pu 4 [(21, Pt b1), (24, .pointer (some ⟨b1, 1, none⟩))] ?_
    refine OW.ld rfl rfl rfl rfl (by kernel_rfl) (hst.blk 0 rfl rfl) ?_
    refine pu 2 [(27, .pointer (some ⟨b1, 2, none⟩))] ?_
    refine OW.stB hst 0 rfl rfl rfl rfl rfl (by kernel_rfl) rfl rfl [.slice a669 (s662.b).length c670, I s662.at_, I s662.at_, I s662.e] rfl ?_
    intro w730 hst
    refine nx (CW.seq ?_)
    refine CW.still (by kernel_rfl) (by kernel_rfl) ?_
    intro w733 hch734
    have hst := hst.same hch734
    refine OS.pure 3 [(30, .pointer (some ⟨b1, 1, none⟩))] rfl (by kernel_rfl) ?_
    refine OS.ld rfl rfl rfl rfl rfl (by kernel_rfl) (hst.blk 0 rfl rfl) ?_
    refine OS.pure 3 [(34, Pt b1)] rfl (by kernel_rfl) ?_
    refine OS.ld rfl rfl rfl rfl rfl (by kernel_rfl) (hst.blk 0 rfl rfl) ?_
    refine OS.pure 2 [(37, .bool (decide (s662.at_ ≥ ((s662.b).length : Int))))] rfl (by kernel_rfl) ?_
    refine OS.fin rfl (QW.next ?_)
    refine br (decide (s662.at_ ≥ ((s662.b).length : Int))) ho728 (fun ho728 hc735 => ?_) (fun ho728 hc735 => ?_)
    ·refine CW.region ?_
     refine pu 1 [(38, Pt b1)] ?_
     have hst := hst.borIn hbo666
     obtain ⟨S742, hst⟩ := hst.shutP1 (R_t86 wb Sb) rfl 0 1 [] rfl rfl rfl (wire_reader.mk s662.b s662.at_ s662.at_ s662.e) rfl rfl
     obtain ⟨r743, hr744, ho728⟩ := bs ho728
     refine OW.fn rfl rfl rfl rfl (by kernel_rfl) (wire_reader_fail_ok _ wb Sb (Pt b1) S742 (wire_reader.mk s662.b s662.at_ s662.at_ s662.e) 10 r743 hr744 (hst.part [0] rfl) (hb.on hst [0])) ?_
     rintro e w745 ⟨S747, rfl, hst746⟩
     refine ⟨_, rfl, ?_⟩
     have hst := hst.join (idx := [0]) (rest := []) rfl hst746
     refine OW.nil rfl (QW.block_normal ?_)
     obtain rfl := inj ho728
     exact QW.meet (fun a ha => ⟨S747, ha.ag, hst.keep [0] rfl⟩)
    refine CW.seq ?_
    refine CW.still (by kernel_rfl) (by kernel_rfl) ?_
    intro w758 hch759
    have hst := hst.same hch759
    refine OS.pure 3 [(42, Pt b1)] rfl (by kernel_rfl) ?_
    refine OS.ld rfl rfl rfl rfl rfl (by kernel_rfl) (hst.blk 0 rfl rfl) ?_
    refine OS.pure 3 [(46, .pointer (some ⟨b1, 1, none⟩))] rfl (by kernel_rfl) ?_
    refine OS.ld rfl rfl rfl rfl rfl (by kernel_rfl) (hst.blk 0 rfl rfl) ?_
    obtain ⟨x760, hx761, ho728⟩ := bs ho728
    obtain ⟨g763, o764, c765, hv762⟩ := hbr667.formv (fun _ => ⟨_, rfl⟩) hx761
    refine OS.idx 5 1 rfl rfl rfl rfl rfl hv762 rfl (idx_some hx761).1 (idx_some hx761).2.1 (by kernel_rfl) (by kernel_rfl) ?_
    refine OS.ld rfl rfl rfl rfl rfl (by kernel_rfl) (hbr667.cellv hst hx761 hv762 0 _ rfl) ?_
    refine OS.pure 3 [(52, .pointer (some ⟨b1, 1, none⟩))] rfl (by kernel_rfl) ?_
    refine OS.ld rfl rfl rfl rfl rfl (by kernel_rfl) (hst.blk 0 rfl rfl) ?_
    obtain ⟨c766, hx767, ho728⟩ := bs ho728
    refine OS.op (v := .int .u8 c766) rfl rfl rfl rfl rfl (fun a ha => sidx_run rfl rfl rfl (by kernel_rfl) hx767 a _ ha) ?_
    refine OS.pure 1 [(55, .bool (x760 != c766))] rfl (by kernel_rfl) ?_
    refine OS.fin rfl (QW.next ?_)
    refine br ((x760 != c766)) ho728 (fun ho728 hc768 => ?_) (fun ho728 hc768 => ?_)
    ·refine CW.region ?_
     refine pu 1 [(56, Pt b1)] ?_
     have hst := hst.borIn hbo666
     obtain ⟨S775, hst⟩ := hst.shutP1 (R_t86 wb Sb) rfl 0 1 [] rfl rfl rfl (wire_reader.mk s662.b s662.at_ s662.at_ s662.e) rfl rfl
     obtain ⟨r776, hr777, ho728⟩ := bs ho728
     refine OW.fn rfl rfl rfl rfl (by kernel_rfl) (wire_reader_fail_ok _ wb Sb (Pt b1) S775 (wire_reader.mk s662.b s662.at_ s662.at_ s662.e) 12 r776 hr777 (hst.part [0] rfl) (hb.on hst [0])) ?_
     rintro e w778 ⟨S780, rfl, hst779⟩
     refine ⟨_, rfl, ?_⟩
     have hst := hst.join (idx := [0]) (rest := []) rfl hst779
     refine OW.nil rfl (QW.block_normal ?_)
     obtain rfl := inj ho728
     exact QW.meet (fun a ha => ⟨S780, ha.ag, hst.keep [0] rfl⟩)
    refine CW.skip (QW.block_normal ?_)
    have hst := hst.borIn hbo666
    obtain ⟨S781, hst⟩ := hst.shutP1 (R_t86 wb Sb) rfl 0 1 [] rfl rfl rfl (wire_reader.mk s662.b s662.at_ s662.at_ s662.e) rfl rfl
    obtain rfl := inj ho728
    exact QW.meet (fun a ha => ⟨S781, ha.ag, hst.keep [0] rfl⟩)
   rintro a w1 ⟨S726, ha, hst⟩
   refine CW.go ?_ ha
   obtain ⟨v782, S783, hst⟩ := hst.openQ1 0 rfl rfl
   have hbo784 := hst.borOut 1 rfl
   have hbr785 := hbo784.bor hb
   have hst := hst.keep [0] rfl
   obtain ⟨l786, a787, c788, rfl⟩ := hbr785.len
   have hst : St _ _ _ [blkI b1 86 [.slice a787 (o727.b).length c788, I o727.at_, I o727.field, I o727.e]] := hst
   refine CW.region ?_
   refine pu 3 [(14, Pt b1), (16, .pointer (some ⟨b1, 1, none⟩))] ?_
   refine OW.ld rfl rfl rfl rfl (by kernel_rfl) (hst.blk 0 rfl rfl) ?_
   refine pu 3 [(18, I (w64 (o727.at_ + 1))), (20, .pointer (some ⟨b1, 1, none⟩))] ?_
   refine OW.stB hst 0 rfl rfl rfl rfl rfl (by kernel_rfl) rfl rfl [.slice a787 (o727.b).length c788, I (w64 (o727.at_ + 1)), I o727.field, I o727.e] rfl ?_
   intro w790 hst
   refine OW.nil rfl ?_
   have hst := hst.borIn hbo784
   obtain ⟨S791, hst⟩ := hst.shutP1 (R_t86 wb Sb) rfl 0 1 [] rfl rfl rfl (wire_reader.mk o727.b (w64 (o727.at_ + 1)) o727.field o727.e) rfl rfl
   exact QW.meet (fun a ha => ⟨n660, Nat.lt_succ_self _, (wire_reader.mk o727.b (w64 (o727.at_ + 1)) o727.field o727.e), S791, ha.ag, hst.keep [0] rfl, hl661⟩)
  refine CW.exit (QW.then_exit (QW.then_exit ?_))
  refine QW.block_here ?_
  have hst := hst.borIn hbo666
  obtain ⟨S792, hst⟩ := hst.shutP1 (R_t86 wb Sb) rfl 0 1 [] rfl rfl rfl s662 rfl rfl
  obtain rfl := inj hl661
  exact QW.meet (fun a ha => ⟨S792, ha.ag, hst.keep [0] rfl⟩)
 rintro a w1 ⟨S396, ha, hst⟩
 refine QW.go ?_ ha
 obtain rfl := inj hF
 refine QW.end0 rfl ?_
 exact ⟨S396, rfl, hst.keep [0] rfl⟩
theorem leb_Get_ok (w : World) (v0 : Value) (p0 : List Int) (r : Int × Int × Int) (hF : leb_Get p0 = some r)
    (hst : St w (fp []) w []) (h0 : Rd w (fp []) v0 (encInt .u8) 1 p0) :
    Calls Tryz.prog 70 [v0].toArray w (fun e w' => e = .returned (.tuple #[U r.1, I r.2.1, I r.2.2]) ∧ St w (fp []) w' []) := by
 refine CW.start (N := 43) Tryz.func70 rfl rfl rfl ?_
 obtain ⟨l1, a2, c3, rfl⟩ := h0.len
 refine rg ?_
 refine pu 3 [] (nx (rg ?_))
 refine pu 1 [(5, U 0)] (nx (CW.seq (rg ?_)))
 refine pu 3 [(8, .slice a2 (p0).length c3), (9, I ((p0).length : Int)), (10, I 0)] (nx ?_)
 obtain ⟨o70, ho71, hF⟩ := bs hF
 refine CW.cutK (fun a w1 => ∃ (t72 : Unit), o70 = .inl t72 ∧ Rep 43 [] a ∧ St w (fp []) w1 []) ?_ ?_
 ·refine CW.block ?_
  refine CW.loop (fun n a w1 => ∃ (i114 : Nat) (s113 : Int), i114 + n = (p0).length ∧ Rep 43 [(5, U s113), (8, .slice a2 (p0).length c3), (9, I ((p0).length : Int)), (10, I (i114 : Int))] a ∧ St w (fp []) w1 [] ∧ forN (leb_Get_l1 p0) (fun (s113 : Int) => (.inl ())) n i114 s113 = some o70) (p0).length (fun a ha => ⟨0, 0, Nat.zero_add _, ha.ag, hst.keep [] rfl, ho71⟩) ?_
  rintro n111 a w1 ⟨i114, s113, hi115, ha, hst, hl112⟩
  refine CW.go ?_ ha
  refine rg ?_
  refine pu 1 [(11, .bool (decide ((i114 : Int) < ((p0).length : Int))))] (nx (CW.seq ?_))
  rcases bft (decide ((i114 : Int) < ((p0).length : Int))) with hc116 | hc116
  ·rcases n111 with _ | n111
   ·exact (cnt0 hi115 hc116).elim
   refine CW.cond_t rfl hc116 (CW.skip (QW.next (CW.seq (CW.block (rg ?_)))))
   refine pu 1 [(12, I (i114 : Int))] ?_
   obtain ⟨x123, hx124, hl112⟩ := bs hl112
   obtain ⟨g126, o127, c128, hv125⟩ := h0.formv (fun _ => ⟨_, rfl⟩) hx124
   refine OW.idx 5 1 rfl rfl rfl rfl hv125 rfl (idx_some hx124).1 (idx_some hx124).2.1 (by kernel_rfl) (by kernel_rfl) ?_
   refine OW.ld rfl rfl rfl rfl (by kernel_rfl) (h0.cellv hst hx124 hv125 0 _ rfl) ?_
   refine pu 2 [(6, I (i114 : Int)), (7, .int .u8 x123)] (nx (CW.seq (CW.seq ?_)))
   refine CW.cutK (fun a w1 => Rep 43 [(5, U s113), (6, I (i114 : Int)), (7, .int .u8 x123), (8, .slice a2 (p0).length c3), (9, I ((p0).length : Int)), (10, I (i114 : Int)), (28, .bool ((((i114 : Int) == 9) && decide (x123 > 1)) || (decide ((i114 : Int) > 0) && (x123 == 0))))] a ∧ St w (fp []) w1 []) ?_ ?_
   ·refine CW.region ?_
    refine pu 3 [(17, .bool ((i114 : Int) == 9))] ?_
    refine OW.split 17 rfl (fun hc129 => ?_) (fun hc129 => ?_)
    ·refine pu 4 [(21, .bool (decide (x123 > 1)))] ?_
     refine OW.split 21 rfl (fun hc130 => ?_) (fun hc130 => ?_)
     ·refine pu 7 [(28, .bool true)] (OW.nil rfl ?_)
      refine QW.say 28 (v := .bool ((((i114 : Int) == 9) && decide (x123 > 1)) || (decide ((i114 : Int) > 0) && (x123 == 0)))) rfl (by first | (rw [hc129, hc130]; done) | (rw [hc129, hc130]; rfl) | simp [hc129, hc130]) ?_
      exact QW.meet (fun a ha => ⟨ha.ag, hst.keep [] rfl⟩)
     refine pu 3 [(24, .bool (decide ((i114 : Int) > 0)))] ?_
     refine OW.split 24 rfl (fun hc131 => ?_) (fun hc131 => ?_)
     ·refine pu 4 [(28, .bool (x123 == 0))] (OW.nil rfl ?_)
      refine QW.say 28 (v := .bool ((((i114 : Int) == 9) && decide (x123 > 1)) || (decide ((i114 : Int) > 0) && (x123 == 0)))) rfl (by first | (rw [hc129, hc130, hc131]; done) | (rw [hc129, hc130, hc131]; rfl) | simp [hc129, hc130, hc131]) ?_
      exact QW.meet (fun a ha => ⟨ha.ag, hst.keep [] rfl⟩)
     refine pu 4 [(28, .bool false)] (OW.nil rfl ?_)
     refine QW.say 28 (v := .bool ((((i114 : Int) == 9) && decide (x123 > 1)) || (decide ((i114 : Int) > 0) && (x123 == 0)))) rfl (by first | (rw [hc129, hc130, hc131]; done) | (rw [hc129, hc130, hc131]; rfl) | simp [hc129, hc130, hc131]) ?_
     exact QW.meet (fun a ha => ⟨ha.ag, hst.keep [] rfl⟩)
    refine pu 7 [(21, .bool false), (24, .bool (decide ((i114 : Int) > 0)))] ?_
    refine OW.split 24 rfl (fun hc132 => ?_) (fun hc132 => ?_)
    ·refine pu 4 [(28, .bool (x123 == 0))] (OW.nil rfl ?_)
     refine QW.say 28 (v := .bool ((((i114 : Int) == 9) && decide (x123 > 1)) || (decide ((i114 : Int) > 0) && (x123 == 0)))) rfl (by first | (rw [hc129, hc132]; done) | (rw [hc129, hc132]; rfl) | simp [hc129, hc132]) ?_
     exact QW.meet (fun a ha => ⟨ha.ag, hst.keep [] rfl⟩)
    refine pu 4 [(28, .bool false)] (OW.nil rfl ?_)
    refine QW.say 28 (v := .bool ((((i114 : Int) == 9) && decide (x123 > 1)) || (decide ((i114 : Int) > 0) && (x123 == 0)))) rfl (by first | (rw [hc129, hc132]; done) | (rw [hc129, hc132]; rfl) | simp [hc129, hc132]) ?_
    exact QW.meet (fun a ha => ⟨ha.ag, hst.keep [] rfl⟩)
   rintro a w1 ⟨ha, hst⟩
   refine CW.go ?_ ha
   refine br (((((i114 : Int) == 9) && decide (x123 > 1)) || (decide ((i114 : Int) > 0) && (x123 == 0)))) hl112 (fun hl112 hc133 => ?_) (fun hl112 hc133 => ?_)
   ·refine rg ?_
    refine pu 3 [(2, U 0), (3, I 0), (4, I 12)] (nx (CW.ret (QW.then_ret (QW.block_ret (QW.then_ret (QW.then_ret (QW.block_ret (QW.then_ret ?_))))))))
    obtain rfl := inj hl112
    obtain rfl := inj hF
    refine QW.ret3 rfl rfl rfl rfl ?_
    exact ⟨rfl, hst.keep [] rfl⟩
   refine CW.skip (QW.next (rg ?_))
   refine pu 6 [(29, U s113), (32, U (wu64 (bAnd .u8 x123 127))), (34, I (w64 (7 * (i114 : Int))))] ?_
   obtain ⟨u136, hz137, hl112⟩ := bs hl112
   refine OW.op (v := U (bShl .u64 (wu64 (bAnd .u8 x123 127)) (w64 (7 * (i114 : Int))))) rfl rfl rfl rfl (fun a ha => shl_run rfl rfl rfl (nn_ge hz137) a _ ha) ?_
   refine pu 2 [(5, U (bOr .u64 s113 (bShl .u64 (wu64 (bAnd .u8 x123 127)) (w64 (7 * (i114 : Int))))))] (nx (rg ?_))
   refine pu 2 [(38, .bool (decide (x123 < 128)))] (nx ?_)
   refine br (decide (x123 < 128)) hl112 (fun hl112 hc138 => ?_) (fun hl112 hc138 => ?_)
   ·refine rg ?_
    refine pu 6 [(2, U (bOr .u64 s113 (bShl .u64 (wu64 (bAnd .u8 x123 127)) (w64 (7 * (i114 : Int)))))), (3, I (w64 ((i114 : Int) + 1))), (4, I 0)] (nx (CW.ret (QW.block_ret (QW.then_ret (QW.then_ret (QW.block_ret (QW.then_ret ?_)))))))
    obtain rfl := inj hl112
    obtain rfl := inj hF
    refine QW.ret3 rfl rfl rfl rfl ?_
    exact ⟨rfl, hst.keep [] rfl⟩
   refine CW.skip (QW.block_normal (QW.next (CW.region ?_)))
   refine pu 2 [(10, I (w64 ((i114 : Int) + 1)))] (OW.nil rfl ?_)
   refine QW.say 10 rfl (congrArg (Value.int .i64) (w64_cnt hc116 l1)) ?_
   exact QW.meet (fun a ha => ⟨n111, Nat.lt_succ_self _, i114 + 1, (bOr .u64 s113 (bShl .u64 (wu64 (bAnd .u8 x123 127)) (w64 (7 * (i114 : Int))))), cnt_next hi115, ha.ag, hst.keep [] rfl, hl112⟩)
  rcases n111 with _ | n111
  ·refine CW.cond_f rfl hc116 ?_
   refine CW.exit (QW.then_exit (QW.then_exit ?_))
   refine QW.block_here ?_
   obtain rfl := inj hl112
   exact QW.meet (fun a ha => ⟨(), rfl, ha.ag, hst.keep [] rfl⟩)
  exact (cnt1 hi115 hc116).elim
 rintro a w1 ⟨t72, rfl, ha, hst⟩
 refine CW.go ?_ ha
 refine rg ?_
 refine pu 3 [(2, U 0), (3, I 0), (4, I 10)] (nx (CW.ret ?_))
 obtain rfl := inj hF
 refine QW.ret3 rfl rfl rfl rfl ?_
 exact ⟨rfl, hst.keep [] rfl⟩
theorem wire_reader_number_ok (w : World) (wb : World) (Sb : List Nat) (v0 : Value) (S0 : List Nat) (p0 : wire_reader) (p1 : Int) (p2 : Int) (r : Int × wire_reader) (hF : wire_reader_number p0 p1 p2 = some r)
    (hst : St w (fp [itI (R_t84 wb Sb) [v0] S0 p0]) w [itI (R_t84 wb Sb) [v0] S0 p0]) (hb : Bor wb Sb w (fp [itI (R_t84 wb Sb) [v0] S0 p0])) :
    Calls Tryz.prog 34 [v0, U p1, I p2].toArray w (fun e w' => ∃ (s0 : List Nat), e = .returned (I r.1) ∧ St w (fp [itI (R_t84 wb Sb) [v0] S0 p0]) w' [itI (R_t84 wb Sb) [v0] s0 r.2]) := by
 refine CW.start (N := 57) Tryz.func34 rfl rfl rfl ?_
 obtain ⟨b1, rfl⟩ := hst.fptr 0 rfl
 refine rg ?_
 refine pu 1 [] (nx (CW.seq (CW.seq ?_)))
 obtain ⟨v2, S3, hst⟩ := hst.openQ1 0 rfl rfl
 have hbo4 := hst.borOut 1 rfl
 have hbr5 := hbo4.bor hb
 have hst := hst.keep [0] rfl
 obtain ⟨l6, a7, c8, rfl⟩ := hbr5.len
 have hst : St _ _ _ [blkI b1 86 [.slice a7 (p0.b).length c8, I p0.at_, I p0.field, I p0.e]] := hst
 refine CW.region ?_
 refine pu 3 [(12, .pointer (some ⟨b1, 3, none⟩))] ?_
 refine OW.ld rfl rfl rfl rfl (by kernel_rfl) (hst.blk 0 rfl rfl) ?_
 refine pu 1 [(14, .bool (p0.e != 0))] (nx ?_)
 refine br ((p0.e != 0)) hF (fun hF hc9 => ?_) (fun hF hc9 => ?_)
 ·refine rg ?_
  refine pu 1 [(6, I 0)] (nx (CW.ret (QW.then_ret ?_)))
  have hst := hst.borIn hbo4
  obtain ⟨S10, hst⟩ := hst.shutP1 (R_t86 wb Sb) rfl 0 1 [] rfl rfl rfl p0 rfl rfl
  obtain rfl := inj hF
  refine QW.ret1 rfl rfl ?_
  exact ⟨S10, rfl, hst.keep [0] rfl⟩
 refine CW.skip (QW.next (rg ?_))
 refine pu 4 [(15, Pt b1), (18, .pointer (some ⟨b1, 1, none⟩))] ?_
 refine OW.ld rfl rfl rfl rfl (by kernel_rfl) (hst.blk 0 rfl rfl) ?_
 refine pu 2 [(21, .pointer (some ⟨b1, 2, none⟩))] ?_
 refine OW.stB hst 0 rfl rfl rfl rfl rfl (by kernel_rfl) rfl rfl [.slice a7 (p0.b).length c8, I p0.at_, I p0.at_, I p0.e] rfl ?_
 intro w12 hst
 refine nx (CW.seq ?_)
 refine CW.plan (by kernel_rfl) ?_
 intro w22 hch23
 have hst := hst.same hch23
 refine OA.pure [0, 1, 2] [(25, Pt b1)] (by kernel_rfl) ?_
 refine OA.ld (i := 3) rfl (by kernel_rfl) rfl rfl rfl (by kernel_rfl) (hst.blk 0 rfl rfl) ?_
 refine OA.pure [4, 5, 6] [(29, .pointer (some ⟨b1, 1, none⟩))] (by kernel_rfl) ?_
 refine OA.ld (i := 7) rfl (by kernel_rfl) rfl rfl rfl (by kernel_rfl) (hst.blk 0 rfl rfl) ?_
 obtain ⟨ys24, hcut25, hF⟩ := bs hF
 refine OA.val (i := 8) (v := .slice (shd a7 c8 (Int.toNat p0.at_) 1) (ys24).length (c8 - Int.toNat p0.at_)) rfl (by kernel_rfl) rfl rfl rfl rfl (fun a w ha => suf_run (e := 5) 1 rfl rfl rfl rfl hcut25 (by kernel_rfl) (by kernel_rfl) a w ha) ?_
 have hp26 := hbr5.part hcut25
 refine OA.act (i := 9) [] (by kernel_rfl) rfl rfl (by kernel_rfl) (by kernel_rfl) ?_
 obtain ⟨r27, hr28, hF⟩ := bs hF
 refine OW.fn rfl rfl rfl rfl (by kernel_rfl) (leb_Get_ok _ (.slice (shd a7 c8 (Int.toNat p0.at_) 1) (ys24).length (c8 - Int.toNat p0.at_)) ys24 r27 hr28 (hst.part [] rfl) (hp26.give hst [])) ?_
 rintro e w29 ⟨rfl, hst30⟩
 refine ⟨_, rfl, ?_⟩
 have hst := hst.join (idx := []) (rest := [0]) rfl hst30
 refine OA.next trivial ?_
 refine OA.pure [10, 11, 12, 13] [(33, U r27.1), (34, I r27.2.1), (35, I r27.2.2)] (by kernel_rfl) ?_
 refine OA.act (i := 14) [] (by kernel_rfl) rfl rfl (by kernel_rfl) (by kernel_rfl) ?_
 refine pu 1 [(7, U r27.1)] (OA.next trivial ?_)
 refine OA.act (i := 15) [] (by kernel_rfl) rfl rfl (by kernel_rfl) (by kernel_rfl) ?_
 refine pu 1 [(8, I r27.2.1)] (OA.next trivial ?_)
 refine OA.act (i := 16) [] (by kernel_rfl) rfl rfl (by kernel_rfl) (by kernel_rfl) ?_
 refine pu 1 [(9, I r27.2.2)] (OA.next trivial ?_)
 refine OA.fin (by kernel_rfl) (by kernel_rfl) (QW.next (rg ?_))
 refine pu 3 [(36, Pt b1), (38, .pointer (some ⟨b1, 1, none⟩))] ?_
 refine OW.ld rfl rfl rfl rfl (by kernel_rfl) (hst.blk 0 rfl rfl) ?_
 refine pu 4 [(41, I (w64 (p0.at_ + r27.2.1))), (43, .pointer (some ⟨b1, 1, none⟩))] ?_
 refine OW.stB hst 0 rfl rfl rfl rfl rfl (by kernel_rfl) rfl rfl [.slice a7 (p0.b).length c8, I (w64 (p0.at_ + r27.2.1)), I p0.at_, I p0.e] rfl ?_
 intro w32 hst
 refine nx (CW.seq (rg ?_))
 refine pu 2 [(45, .bool (r27.2.2 != 0))] (nx ?_)
 refine br ((r27.2.2 != 0)) hF (fun hF hc33 => ?_) (fun hF hc33 => ?_)
 ·refine rg ?_
  refine pu 2 [(46, Pt b1), (47, I r27.2.2)] ?_
  have hst := hst.borIn hbo4
  obtain ⟨S40, hst⟩ := hst.shutP1 (R_t86 wb Sb) rfl 0 1 [] rfl rfl rfl (wire_reader.mk p0.b (w64 (p0.at_ + r27.2.1)) p0.at_ p0.e) rfl rfl
  obtain ⟨r41, hr42, hF⟩ := bs hF
  refine OW.fn rfl rfl rfl rfl (by kernel_rfl) (wire_reader_fail_ok _ wb Sb (Pt b1) S40 (wire_reader.mk p0.b (w64 (p0.at_ + r27.2.1)) p0.at_ p0.e) r27.2.2 r41 hr42 (hst.part [0] rfl) (hb.on hst [0])) ?_
  rintro e w43 ⟨S45, rfl, hst44⟩
  refine ⟨_, rfl, ?_⟩
  have hst := hst.join (idx := [0]) (rest := []) rfl hst44
  refine nx (rg ?_)
  refine pu 1 [(6, I 0)] (nx (CW.ret (QW.then_ret ?_)))
  obtain rfl := inj hF
  refine QW.ret1 rfl rfl ?_
  exact ⟨S45, rfl, hst.keep [0] rfl⟩
 refine CW.skip (QW.next (CW.seq (rg ?_)))
 refine pu 3 [(51, .bool (decide (r27.1 > p1)))] (nx ?_)
 refine br (decide (r27.1 > p1)) hF (fun hF hc46 => ?_) (fun hF hc46 => ?_)
 ·refine rg ?_
  refine pu 2 [(52, Pt b1), (53, I p2)] ?_
  have hst := hst.borIn hbo4
  obtain ⟨S53, hst⟩ := hst.shutP1 (R_t86 wb Sb) rfl 0 1 [] rfl rfl rfl (wire_reader.mk p0.b (w64 (p0.at_ + r27.2.1)) p0.at_ p0.e) rfl rfl
  obtain ⟨r54, hr55, hF⟩ := bs hF
  refine OW.fn rfl rfl rfl rfl (by kernel_rfl) (wire_reader_fail_ok _ wb Sb (Pt b1) S53 (wire_reader.mk p0.b (w64 (p0.at_ + r27.2.1)) p0.at_ p0.e) p2 r54 hr55 (hst.part [0] rfl) (hb.on hst [0])) ?_
  rintro e w56 ⟨S58, rfl, hst57⟩
  refine ⟨_, rfl, ?_⟩
  have hst := hst.join (idx := [0]) (rest := []) rfl hst57
  refine nx (rg ?_)
  refine pu 1 [(6, I 0)] (nx (CW.ret (QW.then_ret ?_)))
  obtain rfl := inj hF
  refine QW.ret1 rfl rfl ?_
  exact ⟨S58, rfl, hst.keep [0] rfl⟩
 refine CW.skip (QW.next (rg ?_))
 refine pu 3 [(6, I (w64 r27.1))] (nx (CW.ret ?_))
 have hst := hst.borIn hbo4
 obtain ⟨S59, hst⟩ := hst.shutP1 (R_t86 wb Sb) rfl 0 1 [] rfl rfl rfl (wire_reader.mk p0.b (w64 (p0.at_ + r27.2.1)) p0.at_ p0.e) rfl rfl
 obtain rfl := inj hF
 refine QW.ret1 rfl rfl ?_
 exact ⟨S59, rfl, hst.keep [0] rfl⟩
theorem leb_GetInt_ok (w : World) (v0 : Value) (p0 : List Int) (r : Int × Int × Int) (hF : leb_GetInt p0 = some r)
    (hst : St w (fp []) w []) (h0 : Rd w (fp []) v0 (encInt .u8) 1 p0) :
    Calls Tryz.prog 72 [v0].toArray w (fun e w' => e = .returned (.tuple #[I r.1, I r.2.1, I r.2.2]) ∧ St w (fp []) w' []) := by
 refine CW.start (N := 24) Tryz.func72 rfl rfl rfl ?_
 obtain ⟨l1, a2, c3, rfl⟩ := h0.len
 refine rg ?_
 refine pu 3 [] (nx (rg ?_))
 refine pu 1 [(9, .slice a2 (p0).length c3)] ?_
 obtain ⟨r8, hr9, hF⟩ := bs hF
 refine OW.fn rfl rfl rfl rfl (by kernel_rfl) (leb_Get_ok _ (.slice a2 (p0).length c3) p0 r8 hr9 (hst.part [] rfl) (h0.give hst [])) ?_
 rintro e w10 ⟨rfl, hst11⟩
 refine ⟨_, rfl, ?_⟩
 have hst := hst.join (idx := []) (rest := []) rfl hst11
 refine pu 7 [(5, U r8.1), (6, I r8.2.1), (7, I r8.2.2)] (nx (rg ?_))
 refine pu 13 [(2, I (bXor .i64 (w64 (bShr .u64 r8.1 1)) (w64 (0 - (w64 (bAnd .u64 r8.1 1)))))), (3, I r8.2.1), (4, I r8.2.2)] (nx (CW.ret ?_))
 obtain rfl := inj hF
 refine QW.ret3 rfl rfl rfl rfl ?_
 exact ⟨rfl, hst.keep [] rfl⟩
theorem ops_of_ok (w : World) (p0 : Int) (r : ops_form × Bool) (hF : ops_of p0 = some r)
    (hst : St w (fp []) w []) (hT0 : Rd w (fp []) (.slice (some ⟨0, 0, none⟩) 23 23) enc_ops_form 2 tab_g0) :
    Calls Tryz.prog 137 [I p0].toArray w (fun e w' => e = .returned (.tuple #[.agg [.string r.1.name, .string r.1.fields].toArray, .bool r.2]) ∧ St w (fp []) w' []) := by
 refine CW.start (N := 14) Tryz.func137 rfl rfl rfl (rg ?_)
 refine OW.alloc hst rfl rfl rfl [.string ByteArray.empty, .string ByteArray.empty] (by kernel_rfl) ?_
 intro b3 w4 hst
 refine pu 1 [] (nx (CW.seq (CW.seq ?_)))
 refine CW.cutK (fun a w1 => Rep 14 [(0, I p0), (2, Pt b3), (9, .bool (decide (p0 < 0) || decide (p0 ≥ 23)))] a ∧ St w (fp []) w1 [blkI b3 220 [.string ByteArray.empty, .string ByteArray.empty]]) ?_ ?_
 ·refine CW.region ?_
  refine pu 3 [(6, .bool (decide (p0 < 0)))] ?_
  refine OW.split 6 rfl (fun hc5 => ?_) (fun hc5 => ?_)
  ·refine pu 3 [(9, .bool true)] (OW.nil rfl ?_)
   refine QW.say 9 (v := .bool (decide (p0 < 0) || decide (p0 ≥ 23))) rfl (by first | (rw [hc5]; done) | (rw [hc5]; rfl) | simp [hc5]) ?_
   exact QW.meet (fun a ha => ⟨ha.ag, hst.keep [0] rfl⟩)
  refine pu 3 [(9, .bool (decide (p0 ≥ 23)))] (OW.nil rfl ?_)
  refine QW.say 9 (v := .bool (decide (p0 < 0) || decide (p0 ≥ 23))) rfl (by first | (rw [hc5]; done) | (rw [hc5]; rfl) | simp [hc5]) ?_
  exact QW.meet (fun a ha => ⟨ha.ag, hst.keep [0] rfl⟩)
 rintro a w1 ⟨ha, hst⟩
 refine CW.go ?_ ha
 refine br ((decide (p0 < 0) || decide (p0 ≥ 23))) hF (fun hF hc6 => ?_) (fun hF hc6 => ?_)
 ·refine rg ?_
  refine pu 1 [(10, .agg [.string ByteArray.empty, .string ByteArray.empty].toArray)] ?_
  refine OW.stB hst 0 rfl rfl rfl rfl rfl (by kernel_rfl) rfl rfl [.string ByteArray.empty, .string ByteArray.empty] rfl ?_
  intro w8 hst
  refine pu 1 [(3, .bool false)] (nx (CW.ret (QW.then_ret ?_)))
  obtain rfl := inj hF
  refine QW.ret_ct rfl rfl (run_loadN (cs := [.string ByteArray.empty, .string ByteArray.empty]) (by kernel_rfl) (by kernel_rfl) (hst.blkN 0 rfl 0 2)) rfl ?_
  exact ⟨rfl, hst.keep [] rfl⟩
 refine CW.skip (QW.next (rg ?_))
 refine pu 1 [(11, I p0)] ?_
 obtain ⟨x12, hx13, hF⟩ := bs hF
 refine OW.op (v := .pointer (some ⟨0, 0 + Int.toNat p0 * 2, none⟩)) rfl rfl rfl rfl (fun a ha => aidx_run (n := tab_g0.length) 220 2 rfl rfl rfl (idx_some hx13).1 (idx_some hx13).2.1 (by kernel_rfl) (by kernel_rfl) a _ ha) ?_
 refine OW.ldN (cs := enc_ops_form x12) rfl rfl rfl rfl (by kernel_rfl) (by kernel_rfl) (hT0.cellv hst hx13 (show Value.slice (some ⟨0, 0, none⟩) 23 23 = .slice (some ⟨0, 0, none⟩) tab_g0.length 23 from rfl)) ?_
 refine OW.stB hst 0 rfl rfl rfl rfl rfl (by kernel_rfl) rfl rfl [.string x12.name, .string x12.fields] rfl ?_
 intro w14 hst
 refine pu 1 [(3, .bool true)] (nx (CW.ret ?_))
 obtain rfl := inj hF
 refine QW.ret_ct rfl rfl (run_loadN (cs := [.string x12.name, .string x12.fields]) (by kernel_rfl) (by kernel_rfl) (hst.blkN 0 rfl 0 2)) rfl ?_
 exact ⟨rfl, hst.keep [] rfl⟩
theorem ops_register_ok (w : World) (p0 : Int) (r : Bool) (hF : ops_register p0 = some r)
    (hst : St w (fp []) w []) :
    Calls Tryz.prog 138 [I p0].toArray w (fun e w' => e = .returned (.bool r) ∧ St w (fp []) w' []) := by
 refine CW.start (N := 9) Tryz.func138 rfl rfl rfl (rg ?_)
 refine pu 1 [] (nx (CW.seq ?_))
 refine CW.cutK (fun a w1 => Rep 9 [(2, .bool (decide (p0 ≥ 0) && decide (p0 < 8)))] a ∧ St w (fp []) w1 []) ?_ ?_
 ·refine CW.region ?_
  refine pu 3 [(5, .bool (decide (p0 ≥ 0)))] ?_
  refine OW.split 5 rfl (fun hc1 => ?_) (fun hc1 => ?_)
  ·refine pu 4 [(2, .bool (decide (p0 < 8)))] (OW.nil rfl ?_)
   refine QW.say 2 (v := .bool (decide (p0 ≥ 0) && decide (p0 < 8))) rfl (by first | (rw [hc1]; done) | (rw [hc1]; rfl) | simp [hc1]) ?_
   exact QW.meet (fun a ha => ⟨ha.ag, hst.keep [] rfl⟩)
  refine pu 4 [(2, .bool false)] (OW.nil rfl ?_)
  refine QW.say 2 (v := .bool (decide (p0 ≥ 0) && decide (p0 < 8))) rfl (by first | (rw [hc1]; done) | (rw [hc1]; rfl) | simp [hc1]) ?_
  exact QW.meet (fun a ha => ⟨ha.ag, hst.keep [] rfl⟩)
 rintro a w1 ⟨ha, hst⟩
 refine CW.go ?_ ha
 refine CW.ret ?_
 obtain rfl := inj hF
 refine QW.ret1 rfl rfl ?_
 exact ⟨rfl, hst.keep [] rfl⟩
theorem ops_within_ok (w : World) (p0 : Int) (p1 : Int) (p2 : Int) (r : Bool) (hF : ops_within p0 p1 p2 = some r)
    (hst : St w (fp []) w []) :
    Calls Tryz.prog 139 [I p0, I p1, I p2].toArray w (fun e w' => e = .returned (.bool r) ∧ St w (fp []) w' []) := by
 refine CW.start (N := 15) Tryz.func139 rfl rfl rfl (rg ?_)
 refine pu 1 [] (nx (CW.seq ?_))
 refine CW.cutK (fun a w1 => Rep 15 [(6, .bool (decide (p0 ≥ p1) && decide (p0 ≤ p2)))] a ∧ St w (fp []) w1 []) ?_ ?_
 ·refine CW.region ?_
  refine pu 4 [(10, .bool (decide (p0 ≥ p1)))] ?_
  refine OW.split 10 rfl (fun hc1 => ?_) (fun hc1 => ?_)
  ·refine pu 5 [(6, .bool (decide (p0 ≤ p2)))] (OW.nil rfl ?_)
   refine QW.say 6 (v := .bool (decide (p0 ≥ p1) && decide (p0 ≤ p2))) rfl (by first | (rw [hc1]; done) | (rw [hc1]; rfl) | simp [hc1]) ?_
   exact QW.meet (fun a ha => ⟨ha.ag, hst.keep [] rfl⟩)
  refine pu 5 [(6, .bool false)] (OW.nil rfl ?_)
  refine QW.say 6 (v := .bool (decide (p0 ≥ p1) && decide (p0 ≤ p2))) rfl (by first | (rw [hc1]; done) | (rw [hc1]; rfl) | simp [hc1]) ?_
  exact QW.meet (fun a ha => ⟨ha.ag, hst.keep [] rfl⟩)
 rintro a w1 ⟨ha, hst⟩
 refine CW.go ?_ ha
 refine CW.ret ?_
 obtain rfl := inj hF
 refine QW.ret1 rfl rfl ?_
 exact ⟨rfl, hst.keep [] rfl⟩
theorem ops_right_ok (w : World) (p0 : api_Inst) (r : Bool) (hF : ops_right p0 = some r)
    (hst : St w (fp []) w []) (hT0 : Rd w (fp []) (.slice (some ⟨0, 0, none⟩) 23 23) enc_ops_form 2 tab_g0) :
    Calls Tryz.prog 95 [.agg [I p0.Op, I p0.D, I p0.A, I p0.B, I p0.Imm].toArray].toArray w (fun e w' => e = .returned (.bool r) ∧ St w (fp []) w' []) := by
 refine CW.start (N := 129) Tryz.func95 rfl rfl rfl (rg ?_)
 refine OW.box hst rfl rfl rfl rfl [I p0.Op, I p0.D, I p0.A, I p0.B, I p0.Imm] rfl ?_
 intro b3 w4 hst
 refine pu 1 [] (nx (rg ?_))
 refine pu 1 [(8, Pt b3)] ?_
 refine OW.ld rfl rfl rfl rfl (by kernel_rfl) (hst.blk 0 rfl rfl) ?_
 obtain ⟨r12, hr13, hF⟩ := bs hF
 refine OW.fn rfl rfl rfl rfl (by kernel_rfl) (ops_of_ok _ p0.Op r12 hr13 (hst.part [] rfl) (hT0.give hst [])) ?_
 rintro e w14 ⟨rfl, hst15⟩
 refine ⟨_, rfl, ?_⟩
 have hst := hst.join (idx := []) (rest := [0]) rfl hst15
 refine pu 3 [(11, .agg [.string r12.1.name, .string r12.1.fields].toArray), (12, .bool r12.2)] ?_
 refine OW.alloc hst rfl rfl rfl [.string ByteArray.empty, .string ByteArray.empty] (by kernel_rfl) ?_
 intro b16 w17 hst
 refine OW.stB hst 1 rfl rfl rfl rfl rfl (by kernel_rfl) rfl rfl [.string r12.1.name, .string r12.1.fields] rfl ?_
 intro w18 hst
 refine pu 1 [(4, .bool r12.2)] (nx (CW.seq (rg ?_)))
 refine pu 2 [(14, .bool (!r12.2))] (nx ?_)
 refine br ((!r12.2)) hF (fun hF hc19 => ?_) (fun hF hc19 => ?_)
 ·refine rg ?_
  refine pu 1 [(2, .bool false)] (nx (CW.ret (QW.then_ret ?_)))
  obtain rfl := inj hF
  refine QW.ret1 rfl rfl ?_
  exact ⟨rfl, hst.keep [] rfl⟩
 refine CW.skip (QW.next (rg ?_))
 refine OW.alloc hst rfl rfl rfl [I 0, I 0, I 0, I 0, I 0] (by kernel_rfl) ?_
 intro b22 w23 hst
 refine nx (CW.seq ?_)
 refine CW.plan (by kernel_rfl) ?_
 intro w30 hch31
 have hst := hst.same hch31
 refine OA.pure [0] [(15, .pointer (some ⟨b3, 1, none⟩))] (by kernel_rfl) ?_
 refine OA.ld (i := 1) rfl (by kernel_rfl) rfl rfl rfl (by kernel_rfl) (hst.blk 0 rfl rfl) ?_
 refine OA.pure [2] [(17, .pointer (some ⟨b3, 2, none⟩))] (by kernel_rfl) ?_
 refine OA.ld (i := 3) rfl (by kernel_rfl) rfl rfl rfl (by kernel_rfl) (hst.blk 0 rfl rfl) ?_
 refine OA.pure [4] [(19, .pointer (some ⟨b3, 3, none⟩))] (by kernel_rfl) ?_
 refine OA.ld (i := 5) rfl (by kernel_rfl) rfl rfl rfl (by kernel_rfl) (hst.blk 0 rfl rfl) ?_
 refine OA.pure [6] [(21, .pointer (some ⟨b3, 4, none⟩))] (by kernel_rfl) ?_
 refine OA.ld (i := 7) rfl (by kernel_rfl) rfl rfl rfl (by kernel_rfl) (hst.blk 0 rfl rfl) ?_
 refine OA.pure [8] [(23, .pointer (some ⟨b22, 1, none⟩))] (by kernel_rfl) ?_
 refine OA.act (i := 9) [7, 5, 3] (by kernel_rfl) rfl rfl (by kernel_rfl) (by kernel_rfl) ?_
 refine OW.stB hst 2 rfl rfl rfl rfl rfl (by kernel_rfl) rfl rfl [I 0, I p0.D, I 0, I 0, I 0] rfl ?_
 intro w32 hst
 refine OA.next ⟨(hst.blk 0 rfl rfl), (hst.blk 0 rfl rfl), (hst.blk 0 rfl rfl), trivial⟩ ?_
 refine OA.pure [10] [(24, .pointer (some ⟨b22, 2, none⟩))] (by kernel_rfl) ?_
 refine OA.act (i := 11) [7, 5] (by kernel_rfl) rfl rfl (by kernel_rfl) (by kernel_rfl) ?_
 refine OW.stB hst 2 rfl rfl rfl rfl rfl (by kernel_rfl) rfl rfl [I 0, I p0.D, I p0.A, I 0, I 0] rfl ?_
 intro w33 hst
 refine OA.next ⟨(hst.blk 0 rfl rfl), (hst.blk 0 rfl rfl), trivial⟩ ?_
 refine OA.pure [12] [(25, .pointer (some ⟨b22, 3, none⟩))] (by kernel_rfl) ?_
 refine OA.act (i := 13) [7] (by kernel_rfl) rfl rfl (by kernel_rfl) (by kernel_rfl) ?_
 refine OW.stB hst 2 rfl rfl rfl rfl rfl (by kernel_rfl) rfl rfl [I 0, I p0.D, I p0.A, I p0.B, I 0] rfl ?_
 intro w34 hst
 refine OA.next ⟨(hst.blk 0 rfl rfl), trivial⟩ ?_
 refine OA.pure [14] [(26, .pointer (some ⟨b22, 4, none⟩))] (by kernel_rfl) ?_
 refine OA.act (i := 15) [] (by kernel_rfl) rfl rfl (by kernel_rfl) (by kernel_rfl) ?_
 refine OW.stB hst 2 rfl rfl rfl rfl rfl (by kernel_rfl) rfl rfl [I 0, I p0.D, I p0.A, I p0.B, I p0.Imm] rfl ?_
 intro w35 hst
 refine OA.next trivial ?_
 refine OA.fin (by kernel_rfl) (by kernel_rfl) (QW.next (CW.seq (rg ?_)))
 refine pu 1 [(27, .pointer (some ⟨b16, 1, none⟩))] ?_
 refine OW.ld rfl rfl rfl rfl (by kernel_rfl) (hst.blk 1 rfl rfl) ?_
 refine pu 2 [(29, I (r12.1.fields.size : Int)), (30, I 0)] (nx ?_)
 obtain ⟨o364, ho365, hF⟩ := bs hF
 refine CW.cutK (fun a w1 => Rep 129 [(4, .bool o364.1), (5, Pt b22)] a ∧ St w (fp []) w1 [blkI b22 42 [I o364.2.Op, I o364.2.D, I o364.2.A, I o364.2.B, I o364.2.Imm]]) ?_ ?_
 ·refine CW.block ?_
  obtain ⟨u612, hr613, ho365⟩ := bs ho365
  refine CW.loop (fun n a w1 => ∃ (i610 : Nat) (s609 : Bool × api_Inst), i610 + n = r12.1.fields.size ∧ Rep 129 [(1, Pt b3), (3, Pt b16), (4, .bool s609.1), (5, Pt b22), (29, I (r12.1.fields.size : Int)), (30, I (i610 : Int))] a ∧ St w (fp []) w1 [blkI b3 42 [I p0.Op, I p0.D, I p0.A, I p0.B, I p0.Imm], blkI b16 220 [.string r12.1.name, .string r12.1.fields], blkI b22 42 [I s609.2.Op, I s609.2.D, I s609.2.A, I s609.2.B, I s609.2.Imm]] ∧ forN (ops_right_l1 p0 r12) (fun (s609 : Bool × api_Inst) => (s609.1, s609.2)) n i610 s609 = some o364) r12.1.fields.size (fun a ha => ⟨0, (r12.2, (api_Inst.mk 0 p0.D p0.A p0.B p0.Imm)), Nat.zero_add _, ha.ag, hst.keep [0, 1, 2] rfl, ho365⟩) ?_
  rintro n607 a w1 ⟨i610, s609, hi611, ha, hst, hl608⟩
  refine CW.go ?_ ha
  refine rg ?_
  refine pu 1 [(31, .bool (decide ((i610 : Int) < (r12.1.fields.size : Int))))] (nx (CW.seq ?_))
  rcases bft (decide ((i610 : Int) < (r12.1.fields.size : Int))) with hc614 | hc614
  ·rcases n607 with _ | n607
   ·exact (cnt0 hi611 hc614).elim
   refine CW.cond_t rfl hc614 (CW.skip (QW.next (CW.seq (CW.block (rg ?_)))))
   refine pu 2 [(6, I (i610 : Int))] (nx (rg ?_))
   refine pu 1 [(33, .pointer (some ⟨b16, 1, none⟩))] ?_
   refine OW.ld rfl rfl rfl rfl (by kernel_rfl) (hst.blk 1 rfl rfl) ?_
   refine pu 1 [(35, I (i610 : Int))] ?_
   obtain ⟨c617, hx618, hl608⟩ := bs hl608
   refine OW.op (v := .int .u8 c617) rfl rfl rfl rfl (fun a ha => sidx_run rfl rfl rfl (by kernel_rfl) hx618 a _ ha) (nx (CW.block (rg ?_)))
   refine pu 2 [(37, .bool (c617 == 100))] (nx ?_)
   refine br ((c617 == 100)) hl608 (fun hl608 hc619 => ?_) (fun hl608 hc619 => ?_)
   ·refine CW.region ?_
    refine pu 2 [(40, .bool s609.1)] ?_
    refine OW.split 40 rfl (fun hc620 => ?_) (fun hc620 => ?_)
    ·have hl608 := ite_t hl608 hc620
     refine pu 1 [(41, .pointer (some ⟨b3, 1, none⟩))] ?_
     refine OW.ld rfl rfl rfl rfl (by kernel_rfl) (hst.blk 0 rfl rfl) ?_
     obtain ⟨r621, hr622, hl608⟩ := bs hl608
     refine OW.fn rfl rfl rfl rfl (by kernel_rfl) (ops_register_ok _ p0.D r621 hr622 (hst.part [] rfl)) ?_
     rintro e w623 ⟨rfl, hst624⟩
     refine ⟨_, rfl, ?_⟩
     have hst := hst.join (idx := []) (rest := [0, 1, 2]) rfl hst624
     refine pu 3 [(4, .bool r621), (45, .pointer (some ⟨b22, 1, none⟩))] ?_
     refine OW.stB hst 2 rfl rfl rfl rfl rfl (by kernel_rfl) rfl rfl [I s609.2.Op, I 0, I s609.2.A, I s609.2.B, I s609.2.Imm] rfl ?_
     intro w625 hst
     refine OW.nil rfl (QW.block_normal (QW.block_normal (QW.next (CW.region ?_))))
     refine pu 2 [(30, I (w64 ((i610 : Int) + 1)))] (OW.nil rfl ?_)
     refine QW.say 30 rfl (congrArg (Value.int .i64) (w64_cnt hc614 (room_sz hr613))) ?_
     exact QW.meet (fun a ha => ⟨n607, Nat.lt_succ_self _, i610 + 1, (r621, (api_Inst.mk s609.2.Op 0 s609.2.A s609.2.B s609.2.Imm)), cnt_next hi611, ha.ag, hst.keep [0, 1, 2] rfl, hl608⟩)
    have hl608 := ite_f hl608 hc620
    refine pu 6 [(4, .bool false), (45, .pointer (some ⟨b22, 1, none⟩))] ?_
    refine OW.stB hst 2 rfl rfl rfl rfl rfl (by kernel_rfl) rfl rfl [I s609.2.Op, I 0, I s609.2.A, I s609.2.B, I s609.2.Imm] rfl ?_
    intro w626 hst
    refine OW.nil rfl (QW.block_normal (QW.block_normal (QW.next (CW.region ?_))))
    refine pu 2 [(30, I (w64 ((i610 : Int) + 1)))] (OW.nil rfl ?_)
    refine QW.say 30 rfl (congrArg (Value.int .i64) (w64_cnt hc614 (room_sz hr613))) ?_
    exact QW.meet (fun a ha => ⟨n607, Nat.lt_succ_self _, i610 + 1, (false, (api_Inst.mk s609.2.Op 0 s609.2.A s609.2.B s609.2.Imm)), cnt_next hi611, ha.ag, hst.keep [0, 1, 2] rfl, hl608⟩)
   refine rg ?_
   refine pu 2 [(46, .bool (c617 == 97))] (nx ?_)
   refine br ((c617 == 97)) hl608 (fun hl608 hc627 => ?_) (fun hl608 hc627 => ?_)
   ·refine CW.region ?_
    refine pu 2 [(49, .bool s609.1)] ?_
    refine OW.split 49 rfl (fun hc628 => ?_) (fun hc628 => ?_)
    ·have hl608 := ite_t hl608 hc628
     refine pu 1 [(50, .pointer (some ⟨b3, 2, none⟩))] ?_
     refine OW.ld rfl rfl rfl rfl (by kernel_rfl) (hst.blk 0 rfl rfl) ?_
     obtain ⟨r629, hr630, hl608⟩ := bs hl608
     refine OW.fn rfl rfl rfl rfl (by kernel_rfl) (ops_register_ok _ p0.A r629 hr630 (hst.part [] rfl)) ?_
     rintro e w631 ⟨rfl, hst632⟩
     refine ⟨_, rfl, ?_⟩
     have hst := hst.join (idx := []) (rest := [0, 1, 2]) rfl hst632
     refine pu 3 [(4, .bool r629), (54, .pointer (some ⟨b22, 2, none⟩))] ?_
     refine OW.stB hst 2 rfl rfl rfl rfl rfl (by kernel_rfl) rfl rfl [I s609.2.Op, I s609.2.D, I 0, I s609.2.B, I s609.2.Imm] rfl ?_
     intro w633 hst
     refine OW.nil rfl (QW.block_normal (QW.block_normal (QW.next (CW.region ?_))))
     refine pu 2 [(30, I (w64 ((i610 : Int) + 1)))] (OW.nil rfl ?_)
     refine QW.say 30 rfl (congrArg (Value.int .i64) (w64_cnt hc614 (room_sz hr613))) ?_
     exact QW.meet (fun a ha => ⟨n607, Nat.lt_succ_self _, i610 + 1, (r629, (api_Inst.mk s609.2.Op s609.2.D 0 s609.2.B s609.2.Imm)), cnt_next hi611, ha.ag, hst.keep [0, 1, 2] rfl, hl608⟩)
    have hl608 := ite_f hl608 hc628
    refine pu 6 [(4, .bool false), (54, .pointer (some ⟨b22, 2, none⟩))] ?_
    refine OW.stB hst 2 rfl rfl rfl rfl rfl (by kernel_rfl) rfl rfl [I s609.2.Op, I s609.2.D, I 0, I s609.2.B, I s609.2.Imm] rfl ?_
    intro w634 hst
    refine OW.nil rfl (QW.block_normal (QW.block_normal (QW.next (CW.region ?_))))
    refine pu 2 [(30, I (w64 ((i610 : Int) + 1)))] (OW.nil rfl ?_)
    refine QW.say 30 rfl (congrArg (Value.int .i64) (w64_cnt hc614 (room_sz hr613))) ?_
    exact QW.meet (fun a ha => ⟨n607, Nat.lt_succ_self _, i610 + 1, (false, (api_Inst.mk s609.2.Op s609.2.D 0 s609.2.B s609.2.Imm)), cnt_next hi611, ha.ag, hst.keep [0, 1, 2] rfl, hl608⟩)
   refine rg ?_
   refine pu 2 [(55, .bool (c617 == 115))] (nx ?_)
   refine br ((c617 == 115)) hl608 (fun hl608 hc635 => ?_) (fun hl608 hc635 => ?_)
   ·refine rg ?_
    refine pu 1 [(57, .pointer (some ⟨b22, 3, none⟩))] ?_
    refine OW.stB hst 2 rfl rfl rfl rfl rfl (by kernel_rfl) rfl rfl [I s609.2.Op, I s609.2.D, I s609.2.A, I 0, I s609.2.Imm] rfl ?_
    intro w637 hst
    refine nx (rg ?_)
    refine pu 1 [(58, .pointer (some ⟨b3, 3, none⟩))] ?_
    refine OW.ld rfl rfl rfl rfl (by kernel_rfl) (hst.blk 0 rfl rfl) ?_
    refine pu 1 [(60, .bool (p0.B == 8))] (nx ?_)
    refine br ((p0.B == 8)) hl608 (fun hl608 hc638 => ?_) (fun hl608 hc638 => ?_)
    ·refine CW.region ?_
     refine pu 1 [(61, .pointer (some ⟨b22, 4, none⟩))] ?_
     refine OW.stB hst 2 rfl rfl rfl rfl rfl (by kernel_rfl) rfl rfl [I s609.2.Op, I s609.2.D, I s609.2.A, I 0, I 0] rfl ?_
     intro w640 hst
     refine OW.nil rfl (QW.block_normal (QW.block_normal (QW.next (CW.region ?_))))
     refine pu 2 [(30, I (w64 ((i610 : Int) + 1)))] (OW.nil rfl ?_)
     refine QW.say 30 rfl (congrArg (Value.int .i64) (w64_cnt hc614 (room_sz hr613))) ?_
     exact QW.meet (fun a ha => ⟨n607, Nat.lt_succ_self _, i610 + 1, (s609.1, (api_Inst.mk s609.2.Op s609.2.D s609.2.A 0 0)), cnt_next hi611, ha.ag, hst.keep [0, 1, 2] rfl, hl608⟩)
    refine CW.region ?_
    refine pu 2 [(63, .bool s609.1)] ?_
    refine OW.split 63 rfl (fun hc641 => ?_) (fun hc641 => ?_)
    ·have hl608 := ite_t hl608 hc641
     refine pu 1 [(64, .pointer (some ⟨b3, 3, none⟩))] ?_
     refine OW.ld rfl rfl rfl rfl (by kernel_rfl) (hst.blk 0 rfl rfl) ?_
     obtain ⟨r642, hr643, hl608⟩ := bs hl608
     refine OW.fn rfl rfl rfl rfl (by kernel_rfl) (ops_register_ok _ p0.B r642 hr643 (hst.part [] rfl)) ?_
     rintro e w644 ⟨rfl, hst645⟩
     refine ⟨_, rfl, ?_⟩
     have hst := hst.join (idx := []) (rest := [0, 1, 2]) rfl hst645
     refine pu 2 [(4, .bool r642)] (OW.nil rfl (QW.block_normal (QW.block_normal (QW.next (CW.region ?_)))))
     refine pu 2 [(30, I (w64 ((i610 : Int) + 1)))] (OW.nil rfl ?_)
     refine QW.say 30 rfl (congrArg (Value.int .i64) (w64_cnt hc614 (room_sz hr613))) ?_
     exact QW.meet (fun a ha => ⟨n607, Nat.lt_succ_self _, i610 + 1, (r642, (api_Inst.mk s609.2.Op s609.2.D s609.2.A 0 s609.2.Imm)), cnt_next hi611, ha.ag, hst.keep [0, 1, 2] rfl, hl608⟩)
    have hl608 := ite_f hl608 hc641
    refine pu 5 [(4, .bool false)] (OW.nil rfl (QW.block_normal (QW.block_normal (QW.next (CW.region ?_)))))
    refine pu 2 [(30, I (w64 ((i610 : Int) + 1)))] (OW.nil rfl ?_)
    refine QW.say 30 rfl (congrArg (Value.int .i64) (w64_cnt hc614 (room_sz hr613))) ?_
    exact QW.meet (fun a ha => ⟨n607, Nat.lt_succ_self _, i610 + 1, (false, (api_Inst.mk s609.2.Op s609.2.D s609.2.A 0 s609.2.Imm)), cnt_next hi611, ha.ag, hst.keep [0, 1, 2] rfl, hl608⟩)
   refine rg ?_
   refine pu 2 [(68, .bool (c617 == 102))] (nx ?_)
   refine br ((c617 == 102)) hl608 (fun hl608 hc646 => ?_) (fun hl608 hc646 => ?_)
   ·refine CW.region ?_
    refine pu 2 [(71, .bool s609.1)] ?_
    refine OW.split 71 rfl (fun hc647 => ?_) (fun hc647 => ?_)
    ·have hl608 := ite_t hl608 hc647
     refine pu 1 [(72, .pointer (some ⟨b3, 4, none⟩))] ?_
     refine OW.ld rfl rfl rfl rfl (by kernel_rfl) (hst.blk 0 rfl rfl) ?_
     obtain ⟨r648, hr649, hl608⟩ := bs hl608
     refine OW.fn rfl rfl rfl rfl (by kernel_rfl) (ops_within_ok _ p0.Imm 0 1 r648 hr649 (hst.part [] rfl)) ?_
     rintro e w650 ⟨rfl, hst651⟩
     refine ⟨_, rfl, ?_⟩
     have hst := hst.join (idx := []) (rest := [0, 1, 2]) rfl hst651
     refine pu 3 [(4, .bool r648), (76, .pointer (some ⟨b22, 4, none⟩))] ?_
     refine OW.stB hst 2 rfl rfl rfl rfl rfl (by kernel_rfl) rfl rfl [I s609.2.Op, I s609.2.D, I s609.2.A, I s609.2.B, I 0] rfl ?_
     intro w652 hst
     refine OW.nil rfl (QW.block_normal (QW.block_normal (QW.next (CW.region ?_))))
     refine pu 2 [(30, I (w64 ((i610 : Int) + 1)))] (OW.nil rfl ?_)
     refine QW.say 30 rfl (congrArg (Value.int .i64) (w64_cnt hc614 (room_sz hr613))) ?_
     exact QW.meet (fun a ha => ⟨n607, Nat.lt_succ_self _, i610 + 1, (r648, (api_Inst.mk s609.2.Op s609.2.D s609.2.A s609.2.B 0)), cnt_next hi611, ha.ag, hst.keep [0, 1, 2] rfl, hl608⟩)
    have hl608 := ite_f hl608 hc647
    refine pu 6 [(4, .bool false), (76, .pointer (some ⟨b22, 4, none⟩))] ?_
    refine OW.stB hst 2 rfl rfl rfl rfl rfl (by kernel_rfl) rfl rfl [I s609.2.Op, I s609.2.D, I s609.2.A, I s609.2.B, I 0] rfl ?_
    intro w653 hst
    refine OW.nil rfl (QW.block_normal (QW.block_normal (QW.next (CW.region ?_))))
    refine pu 2 [(30, I (w64 ((i610 : Int) + 1)))] (OW.nil rfl ?_)
    refine QW.say 30 rfl (congrArg (Value.int .i64) (w64_cnt hc614 (room_sz hr613))) ?_
    exact QW.meet (fun a ha => ⟨n607, Nat.lt_succ_self _, i610 + 1, (false, (api_Inst.mk s609.2.Op s609.2.D s609.2.A s609.2.B 0)), cnt_next hi611, ha.ag, hst.keep [0, 1, 2] rfl, hl608⟩)
   refine rg ?_
   refine pu 2 [(77, .bool (c617 == 109))] (nx ?_)
   refine br ((c617 == 109)) hl608 (fun hl608 hc654 => ?_) (fun hl608 hc654 => ?_)
   ·refine CW.region ?_
    refine pu 2 [(80, .bool s609.1)] ?_
    refine OW.split 80 rfl (fun hc655 => ?_) (fun hc655 => ?_)
    ·have hl608 := ite_t hl608 hc655
     refine pu 1 [(81, .pointer (some ⟨b3, 4, none⟩))] ?_
     refine OW.ld rfl rfl rfl rfl (by kernel_rfl) (hst.blk 0 rfl rfl) ?_
     obtain ⟨r656, hr657, hl608⟩ := bs hl608
     refine OW.fn rfl rfl rfl rfl (by kernel_rfl) (ops_within_ok _ p0.Imm 0 3 r656 hr657 (hst.part [] rfl)) ?_
     rintro e w658 ⟨rfl, hst659⟩
     refine ⟨_, rfl, ?_⟩
     have hst := hst.join (idx := []) (rest := [0, 1, 2]) rfl hst659
     refine pu 3 [(4, .bool r656), (85, .pointer (some ⟨b22, 4, none⟩))] ?_
     refine OW.stB hst 2 rfl rfl rfl rfl rfl (by kernel_rfl) rfl rfl [I s609.2.Op, I s609.2.D, I s609.2.A, I s609.2.B, I 0] rfl ?_
     intro w660 hst
     refine OW.nil rfl (QW.block_normal (QW.block_normal (QW.next (CW.region ?_))))
     refine pu 2 [(30, I (w64 ((i610 : Int) + 1)))] (OW.nil rfl ?_)
     refine QW.say 30 rfl (congrArg (Value.int .i64) (w64_cnt hc614 (room_sz hr613))) ?_
     exact QW.meet (fun a ha => ⟨n607, Nat.lt_succ_self _, i610 + 1, (r656, (api_Inst.mk s609.2.Op s609.2.D s609.2.A s609.2.B 0)), cnt_next hi611, ha.ag, hst.keep [0, 1, 2] rfl, hl608⟩)
    have hl608 := ite_f hl608 hc655
    refine pu 6 [(4, .bool false), (85, .pointer (some ⟨b22, 4, none⟩))] ?_
    refine OW.stB hst 2 rfl rfl rfl rfl rfl (by kernel_rfl) rfl rfl [I s609.2.Op, I s609.2.D, I s609.2.A, I s609.2.B, I 0] rfl ?_
    intro w661 hst
    refine OW.nil rfl (QW.block_normal (QW.block_normal (QW.next (CW.region ?_))))
    refine pu 2 [(30, I (w64 ((i610 : Int) + 1)))] (OW.nil rfl ?_)
    refine QW.say 30 rfl (congrArg (Value.int .i64) (w64_cnt hc614 (room_sz hr613))) ?_
    exact QW.meet (fun a ha => ⟨n607, Nat.lt_succ_self _, i610 + 1, (false, (api_Inst.mk s609.2.Op s609.2.D s609.2.A s609.2.B 0)), cnt_next hi611, ha.ag, hst.keep [0, 1, 2] rfl, hl608⟩)
   refine rg ?_
   refine pu 2 [(86, .bool (c617 == 104))] (nx ?_)
   refine br ((c617 == 104)) hl608 (fun hl608 hc662 => ?_) (fun hl608 hc662 => ?_)
   ·refine CW.region ?_
    refine pu 2 [(89, .bool s609.1)] ?_
    refine OW.split 89 rfl (fun hc663 => ?_) (fun hc663 => ?_)
    ·have hl608 := ite_t hl608 hc663
     refine pu 1 [(90, .pointer (some ⟨b3, 4, none⟩))] ?_
     refine OW.ld rfl rfl rfl rfl (by kernel_rfl) (hst.blk 0 rfl rfl) ?_
     obtain ⟨r664, hr665, hl608⟩ := bs hl608
     refine OW.fn rfl rfl rfl rfl (by kernel_rfl) (ops_within_ok _ p0.Imm 0 6 r664 hr665 (hst.part [] rfl)) ?_
     rintro e w666 ⟨rfl, hst667⟩
     refine ⟨_, rfl, ?_⟩
     have hst := hst.join (idx := []) (rest := [0, 1, 2]) rfl hst667
     refine pu 3 [(4, .bool r664), (94, .pointer (some ⟨b22, 4, none⟩))] ?_
     refine OW.stB hst 2 rfl rfl rfl rfl rfl (by kernel_rfl) rfl rfl [I s609.2.Op, I s609.2.D, I s609.2.A, I s609.2.B, I 0] rfl ?_
     intro w668 hst
     refine OW.nil rfl (QW.block_normal (QW.block_normal (QW.next (CW.region ?_))))
     refine pu 2 [(30, I (w64 ((i610 : Int) + 1)))] (OW.nil rfl ?_)
     refine QW.say 30 rfl (congrArg (Value.int .i64) (w64_cnt hc614 (room_sz hr613))) ?_
     exact QW.meet (fun a ha => ⟨n607, Nat.lt_succ_self _, i610 + 1, (r664, (api_Inst.mk s609.2.Op s609.2.D s609.2.A s609.2.B 0)), cnt_next hi611, ha.ag, hst.keep [0, 1, 2] rfl, hl608⟩)
    have hl608 := ite_f hl608 hc663
    refine pu 6 [(4, .bool false), (94, .pointer (some ⟨b22, 4, none⟩))] ?_
    refine OW.stB hst 2 rfl rfl rfl rfl rfl (by kernel_rfl) rfl rfl [I s609.2.Op, I s609.2.D, I s609.2.A, I s609.2.B, I 0] rfl ?_
    intro w669 hst
    refine OW.nil rfl (QW.block_normal (QW.block_normal (QW.next (CW.region ?_))))
    refine pu 2 [(30, I (w64 ((i610 : Int) + 1)))] (OW.nil rfl ?_)
    refine QW.say 30 rfl (congrArg (Value.int .i64) (w64_cnt hc614 (room_sz hr613))) ?_
    exact QW.meet (fun a ha => ⟨n607, Nat.lt_succ_self _, i610 + 1, (false, (api_Inst.mk s609.2.Op s609.2.D s609.2.A s609.2.B 0)), cnt_next hi611, ha.ag, hst.keep [0, 1, 2] rfl, hl608⟩)
   refine rg ?_
   refine pu 2 [(95, .bool (c617 == 110))] (nx ?_)
   refine br ((c617 == 110)) hl608 (fun hl608 hc670 => ?_) (fun hl608 hc670 => ?_)
   ·refine CW.region ?_
    refine pu 2 [(98, .bool s609.1)] ?_
    refine OW.split 98 rfl (fun hc671 => ?_) (fun hc671 => ?_)
    ·have hl608 := ite_t hl608 hc671
     refine pu 1 [(99, .pointer (some ⟨b3, 4, none⟩))] ?_
     refine OW.ld rfl rfl rfl rfl (by kernel_rfl) (hst.blk 0 rfl rfl) ?_
     obtain ⟨r672, hr673, hl608⟩ := bs hl608
     refine OW.fn rfl rfl rfl rfl (by kernel_rfl) (ops_within_ok _ p0.Imm 1 255 r672 hr673 (hst.part [] rfl)) ?_
     rintro e w674 ⟨rfl, hst675⟩
     refine ⟨_, rfl, ?_⟩
     have hst := hst.join (idx := []) (rest := [0, 1, 2]) rfl hst675
     refine pu 3 [(4, .bool r672), (103, .pointer (some ⟨b22, 4, none⟩))] ?_
     refine OW.stB hst 2 rfl rfl rfl rfl rfl (by kernel_rfl) rfl rfl [I s609.2.Op, I s609.2.D, I s609.2.A, I s609.2.B, I 0] rfl ?_
     intro w676 hst
     refine OW.nil rfl (QW.block_normal (QW.block_normal (QW.next (CW.region ?_))))
     refine pu 2 [(30, I (w64 ((i610 : Int) + 1)))] (OW.nil rfl ?_)
     refine QW.say 30 rfl (congrArg (Value.int .i64) (w64_cnt hc614 (room_sz hr613))) ?_
     exact QW.meet (fun a ha => ⟨n607, Nat.lt_succ_self _, i610 + 1, (r672, (api_Inst.mk s609.2.Op s609.2.D s609.2.A s609.2.B 0)), cnt_next hi611, ha.ag, hst.keep [0, 1, 2] rfl, hl608⟩)
    have hl608 := ite_f hl608 hc671
    refine pu 6 [(4, .bool false), (103, .pointer (some ⟨b22, 4, none⟩))] ?_
    refine OW.stB hst 2 rfl rfl rfl rfl rfl (by kernel_rfl) rfl rfl [I s609.2.Op, I s609.2.D, I s609.2.A, I s609.2.B, I 0] rfl ?_
    intro w677 hst
    refine OW.nil rfl (QW.block_normal (QW.block_normal (QW.next (CW.region ?_))))
    refine pu 2 [(30, I (w64 ((i610 : Int) + 1)))] (OW.nil rfl ?_)
    refine QW.say 30 rfl (congrArg (Value.int .i64) (w64_cnt hc614 (room_sz hr613))) ?_
    exact QW.meet (fun a ha => ⟨n607, Nat.lt_succ_self _, i610 + 1, (false, (api_Inst.mk s609.2.Op s609.2.D s609.2.A s609.2.B 0)), cnt_next hi611, ha.ag, hst.keep [0, 1, 2] rfl, hl608⟩)
   refine rg ?_
   refine pu 2 [(104, .bool (c617 == 106))] (nx ?_)
   refine br ((c617 == 106)) hl608 (fun hl608 hc678 => ?_) (fun hl608 hc678 => ?_)
   ·refine CW.region ?_
    refine pu 2 [(107, .bool s609.1)] ?_
    refine OW.split 107 rfl (fun hc679 => ?_) (fun hc679 => ?_)
    ·have hl608 := ite_t hl608 hc679
     refine pu 1 [(108, .pointer (some ⟨b3, 1, none⟩))] ?_
     refine OW.ld rfl rfl rfl rfl (by kernel_rfl) (hst.blk 0 rfl rfl) ?_
     obtain ⟨r680, hr681, hl608⟩ := bs hl608
     refine OW.fn rfl rfl rfl rfl (by kernel_rfl) (ops_within_ok _ p0.D 0 63 r680 hr681 (hst.part [] rfl)) ?_
     rintro e w682 ⟨rfl, hst683⟩
     refine ⟨_, rfl, ?_⟩
     have hst := hst.join (idx := []) (rest := [0, 1, 2]) rfl hst683
     refine pu 3 [(4, .bool r680), (112, .pointer (some ⟨b22, 1, none⟩))] ?_
     refine OW.stB hst 2 rfl rfl rfl rfl rfl (by kernel_rfl) rfl rfl [I s609.2.Op, I 0, I s609.2.A, I s609.2.B, I s609.2.Imm] rfl ?_
     intro w684 hst
     refine OW.nil rfl (QW.block_normal (QW.block_normal (QW.next (CW.region ?_))))
     refine pu 2 [(30, I (w64 ((i610 : Int) + 1)))] (OW.nil rfl ?_)
     refine QW.say 30 rfl (congrArg (Value.int .i64) (w64_cnt hc614 (room_sz hr613))) ?_
     exact QW.meet (fun a ha => ⟨n607, Nat.lt_succ_self _, i610 + 1, (r680, (api_Inst.mk s609.2.Op 0 s609.2.A s609.2.B s609.2.Imm)), cnt_next hi611, ha.ag, hst.keep [0, 1, 2] rfl, hl608⟩)
    have hl608 := ite_f hl608 hc679
    refine pu 6 [(4, .bool false), (112, .pointer (some ⟨b22, 1, none⟩))] ?_
    refine OW.stB hst 2 rfl rfl rfl rfl rfl (by kernel_rfl) rfl rfl [I s609.2.Op, I 0, I s609.2.A, I s609.2.B, I s609.2.Imm] rfl ?_
    intro w685 hst
    refine OW.nil rfl (QW.block_normal (QW.block_normal (QW.next (CW.region ?_))))
    refine pu 2 [(30, I (w64 ((i610 : Int) + 1)))] (OW.nil rfl ?_)
    refine QW.say 30 rfl (congrArg (Value.int .i64) (w64_cnt hc614 (room_sz hr613))) ?_
    exact QW.meet (fun a ha => ⟨n607, Nat.lt_succ_self _, i610 + 1, (false, (api_Inst.mk s609.2.Op 0 s609.2.A s609.2.B s609.2.Imm)), cnt_next hi611, ha.ag, hst.keep [0, 1, 2] rfl, hl608⟩)
   refine rg ?_
   refine pu 2 [(113, .bool (c617 == 98))] (nx ?_)
   refine br ((c617 == 98)) hl608 (fun hl608 hc686 => ?_) (fun hl608 hc686 => ?_)
   ·refine CW.region ?_
    refine pu 2 [(116, .bool s609.1)] ?_
    refine OW.split 116 rfl (fun hc687 => ?_) (fun hc687 => ?_)
    ·have hl608 := ite_t hl608 hc687
     refine pu 1 [(117, .pointer (some ⟨b3, 1, none⟩))] ?_
     refine OW.ld rfl rfl rfl rfl (by kernel_rfl) (hst.blk 0 rfl rfl) ?_
     obtain ⟨r688, hr689, hl608⟩ := bs hl608
     refine OW.fn rfl rfl rfl rfl (by kernel_rfl) (ops_within_ok _ p0.D 1 63 r688 hr689 (hst.part [] rfl)) ?_
     rintro e w690 ⟨rfl, hst691⟩
     refine ⟨_, rfl, ?_⟩
     have hst := hst.join (idx := []) (rest := [0, 1, 2]) rfl hst691
     refine pu 3 [(4, .bool r688), (121, .pointer (some ⟨b22, 1, none⟩))] ?_
     refine OW.stB hst 2 rfl rfl rfl rfl rfl (by kernel_rfl) rfl rfl [I s609.2.Op, I 0, I s609.2.A, I s609.2.B, I s609.2.Imm] rfl ?_
     intro w692 hst
     refine OW.nil rfl (QW.block_normal (QW.block_normal (QW.next (CW.region ?_))))
     refine pu 2 [(30, I (w64 ((i610 : Int) + 1)))] (OW.nil rfl ?_)
     refine QW.say 30 rfl (congrArg (Value.int .i64) (w64_cnt hc614 (room_sz hr613))) ?_
     exact QW.meet (fun a ha => ⟨n607, Nat.lt_succ_self _, i610 + 1, (r688, (api_Inst.mk s609.2.Op 0 s609.2.A s609.2.B s609.2.Imm)), cnt_next hi611, ha.ag, hst.keep [0, 1, 2] rfl, hl608⟩)
    have hl608 := ite_f hl608 hc687
    refine pu 6 [(4, .bool false), (121, .pointer (some ⟨b22, 1, none⟩))] ?_
    refine OW.stB hst 2 rfl rfl rfl rfl rfl (by kernel_rfl) rfl rfl [I s609.2.Op, I 0, I s609.2.A, I s609.2.B, I s609.2.Imm] rfl ?_
    intro w693 hst
    refine OW.nil rfl (QW.block_normal (QW.block_normal (QW.next (CW.region ?_))))
    refine pu 2 [(30, I (w64 ((i610 : Int) + 1)))] (OW.nil rfl ?_)
    refine QW.say 30 rfl (congrArg (Value.int .i64) (w64_cnt hc614 (room_sz hr613))) ?_
    exact QW.meet (fun a ha => ⟨n607, Nat.lt_succ_self _, i610 + 1, (false, (api_Inst.mk s609.2.Op 0 s609.2.A s609.2.B s609.2.Imm)), cnt_next hi611, ha.ag, hst.keep [0, 1, 2] rfl, hl608⟩)
   refine CW.skip (QW.block_normal (QW.block_normal (QW.next (CW.region ?_))))
   refine pu 2 [(30, I (w64 ((i610 : Int) + 1)))] (OW.nil rfl ?_)
   refine QW.say 30 rfl (congrArg (Value.int .i64) (w64_cnt hc614 (room_sz hr613))) ?_
   exact QW.meet (fun a ha => ⟨n607, Nat.lt_succ_self _, i610 + 1, (s609.1, s609.2), cnt_next hi611, ha.ag, hst.keep [0, 1, 2] rfl, hl608⟩)
  rcases n607 with _ | n607
  ·refine CW.cond_f rfl hc614 ?_
   refine CW.exit (QW.then_exit (QW.then_exit ?_))
   refine QW.block_here ?_
   obtain rfl := inj hl608
   exact QW.meet (fun a ha => ⟨ha.ag, hst.keep [2] rfl⟩)
  exact (cnt1 hi611 hc614).elim
 rintro a w1 ⟨ha, hst⟩
 refine CW.go ?_ ha
 refine CW.seq ?_
 obtain ⟨o695, ho696, hF⟩ := bs hF
 refine CW.cutK (fun a w1 => Rep 129 [(2, .bool o695)] a ∧ St w (fp []) w1 []) ?_ ?_
 ·refine CW.region ?_
  refine pu 2 [(124, .bool o364.1)] ?_
  refine OW.split 124 rfl (fun hc697 => ?_) (fun hc697 => ?_)
  ·have ho696 := ite_t ho696 hc697
   refine OW.ldN (cs := [I o364.2.Op, I o364.2.D, I o364.2.A, I o364.2.B, I o364.2.Imm]) rfl rfl rfl rfl (by kernel_rfl) (by kernel_rfl) (hst.blkN 0 rfl 0 5) ?_
   refine pu 1 [(126, .agg [I 0, I 0, I 0, I 0, I 0].toArray)] ?_
   refine OW.op (v := .bool ((o364.2.Op == 0) && ((o364.2.D == 0) && ((o364.2.A == 0) && ((o364.2.B == 0) && ((o364.2.Imm == 0) && true)))))) rfl rfl rfl rfl (fun a ha => seq_run rfl rfl rfl (by kernel_rfl) (by kernel_rfl) a _ ha) ?_
   refine pu 2 [(2, .bool ((o364.2.Op == 0) && ((o364.2.D == 0) && ((o364.2.A == 0) && ((o364.2.B == 0) && ((o364.2.Imm == 0) && true))))))] (OW.nil rfl ?_)
   obtain rfl := inj ho696
   exact QW.meet (fun a ha => ⟨ha.ag, hst.keep [] rfl⟩)
  have ho696 := ite_f ho696 hc697
  refine pu 5 [(2, .bool false)] (OW.nil rfl ?_)
  obtain rfl := inj ho696
  exact QW.meet (fun a ha => ⟨ha.ag, hst.keep [] rfl⟩)
 rintro a w1 ⟨ha, hst⟩
 refine CW.go ?_ ha
 refine CW.ret ?_
 obtain rfl := inj hF
 refine QW.ret1 rfl rfl ?_
 exact ⟨rfl, hst.keep [] rfl⟩
theorem ops_Right_ok (w : World) (v0 : Value) (p0 : List api_Inst) (r : Bool) (hF : ops_Right p0 = some r)
    (hst : St w (fp []) w []) (h0 : Rd w (fp []) v0 enc_api_Inst 5 p0) (hT0 : Rd w (fp []) (.slice (some ⟨0, 0, none⟩) 23 23) enc_ops_form 2 tab_g0) :
    Calls Tryz.prog 73 [v0].toArray w (fun e w' => e = .returned (.bool r) ∧ St w (fp []) w' []) := by
 refine CW.start (N := 15) Tryz.func73 rfl rfl rfl ?_
 obtain ⟨l1, a2, c3, rfl⟩ := h0.len
 refine rg ?_
 refine pu 1 [] (nx (CW.seq (rg ?_)))
 refine pu 3 [(5, .slice a2 (p0).length c3), (6, I ((p0).length : Int)), (7, I 0)] (nx ?_)
 obtain ⟨o94, ho95, hF⟩ := bs hF
 refine CW.cutK (fun a w1 => ∃ (t96 : Unit), o94 = .inl t96 ∧ Rep 15 [] a ∧ St w (fp []) w1 []) ?_ ?_
 ·refine CW.block ?_
  refine CW.loop (fun n a w1 => ∃ (i157 : Nat) (s156 : Unit), i157 + n = (p0).length ∧ Rep 15 [(5, .slice a2 (p0).length c3), (6, I ((p0).length : Int)), (7, I (i157 : Int))] a ∧ St w (fp []) w1 [] ∧ forN (ops_Right_l1 p0) (fun (s156 : Unit) => (.inl ())) n i157 s156 = some o94) (p0).length (fun a ha => ⟨0, (), Nat.zero_add _, ha.ag, hst.keep [] rfl, ho95⟩) ?_
  rintro n154 a w1 ⟨i157, s156, hi158, ha, hst, hl155⟩
  refine CW.go ?_ ha
  refine rg ?_
  refine pu 1 [(8, .bool (decide ((i157 : Int) < ((p0).length : Int))))] (nx (CW.seq ?_))
  rcases bft (decide ((i157 : Int) < ((p0).length : Int))) with hc159 | hc159
  ·rcases n154 with _ | n154
   ·exact (cnt0 hi158 hc159).elim
   refine CW.cond_t rfl hc159 (CW.skip (QW.next (CW.seq (CW.block (rg ?_)))))
   obtain ⟨x169, hx170, hl155⟩ := bs hl155
   obtain ⟨g172, o173, c174, hv171⟩ := h0.formv (fun _ => ⟨_, rfl⟩) hx170
   refine OW.idx 42 5 rfl rfl rfl rfl hv171 rfl (idx_some hx170).1 (idx_some hx170).2.1 (by kernel_rfl) (by kernel_rfl) ?_
   refine OW.ldN (cs := enc_api_Inst x169) rfl rfl rfl rfl (by kernel_rfl) (by kernel_rfl) (h0.cellv hst hx170 hv171) ?_
   refine OW.alloc hst rfl rfl rfl [I 0, I 0, I 0, I 0, I 0] (by kernel_rfl) ?_
   intro b175 w176 hst
   refine OW.stB hst 0 rfl rfl rfl rfl rfl (by kernel_rfl) rfl rfl [I x169.Op, I x169.D, I x169.A, I x169.B, I x169.Imm] rfl ?_
   intro w177 hst
   refine nx (rg ?_)
   refine OW.ldN (cs := [I x169.Op, I x169.D, I x169.A, I x169.B, I x169.Imm]) rfl rfl rfl rfl (by kernel_rfl) (by kernel_rfl) (hst.blkN 0 rfl 0 5) ?_
   obtain ⟨r182, hr183, hl155⟩ := bs hl155
   refine OW.fn rfl rfl rfl rfl (by kernel_rfl) (ops_right_ok _ x169 r182 hr183 (hst.part [] rfl) (hT0.give hst [])) ?_
   rintro e w184 ⟨rfl, hst185⟩
   refine ⟨_, rfl, ?_⟩
   have hst := hst.join (idx := []) (rest := [0]) rfl hst185
   refine pu 1 [(13, .bool (!r182))] (nx ?_)
   refine br ((!r182)) hl155 (fun hl155 hc186 => ?_) (fun hl155 hc186 => ?_)
   ·refine rg ?_
    refine pu 1 [(2, .bool false)] (nx (CW.ret (QW.block_ret (QW.then_ret (QW.then_ret (QW.block_ret (QW.then_ret ?_)))))))
    obtain rfl := inj hl155
    obtain rfl := inj hF
    refine QW.ret1 rfl rfl ?_
    exact ⟨rfl, hst.keep [] rfl⟩
   refine CW.skip (QW.block_normal (QW.next (CW.region ?_)))
   refine pu 2 [(7, I (w64 ((i157 : Int) + 1)))] (OW.nil rfl ?_)
   refine QW.say 7 rfl (congrArg (Value.int .i64) (w64_cnt hc159 l1)) ?_
   exact QW.meet (fun a ha => ⟨n154, Nat.lt_succ_self _, i157 + 1, (), cnt_next hi158, ha.ag, hst.keep [] rfl, hl155⟩)
  rcases n154 with _ | n154
  ·refine CW.cond_f rfl hc159 ?_
   refine CW.exit (QW.then_exit (QW.then_exit ?_))
   refine QW.block_here ?_
   obtain rfl := inj hl155
   exact QW.meet (fun a ha => ⟨(), rfl, ha.ag, hst.keep [] rfl⟩)
  exact (cnt1 hi158 hc159).elim
 rintro a w1 ⟨t96, rfl, ha, hst⟩
 refine CW.go ?_ ha
 refine rg ?_
 refine pu 1 [(2, .bool true)] (nx (CW.ret ?_))
 obtain rfl := inj hF
 refine QW.ret1 rfl rfl ?_
 exact ⟨rfl, hst.keep [] rfl⟩
theorem wire_reader_inst_ok (w : World) (wb : World) (Sb : List Nat) (v0 : Value) (S0 : List Nat) (p0 : wire_reader) (r : api_Inst × wire_reader) (hF : wire_reader_inst p0 = some r)
    (hst : St w (fp [itI (R_t84 wb Sb) [v0] S0 p0]) w [itI (R_t84 wb Sb) [v0] S0 p0]) (hb : Bor wb Sb w (fp [itI (R_t84 wb Sb) [v0] S0 p0])) (hT0 : Rd w (fp [itI (R_t84 wb Sb) [v0] S0 p0]) (.slice (some ⟨0, 0, none⟩) 23 23) enc_ops_form 2 tab_g0) :
    Calls Tryz.prog 37 [v0].toArray w (fun e w' => ∃ (s0 : List Nat), e = .returned (.agg [I r.1.Op, I r.1.D, I r.1.A, I r.1.B, I r.1.Imm].toArray) ∧ St w (fp [itI (R_t84 wb Sb) [v0] S0 p0]) w' [itI (R_t84 wb Sb) [v0] s0 r.2]) := by
 refine CW.start (N := 77) Tryz.func37 rfl rfl rfl ?_
 obtain ⟨b1, rfl⟩ := hst.fptr 0 rfl
 refine rg ?_
 refine OW.alloc hst rfl rfl rfl [I 0, I 0, I 0, I 0, I 0] (by kernel_rfl) ?_
 intro b4 w5 hst
 refine nx (CW.seq ?_)
 obtain ⟨v6, S7, hst⟩ := hst.openQ1 0 rfl rfl
 have hbo8 := hst.borOut 2 rfl
 have hbr9 := hbo8.bor hb
 have hst := hst.keep [0, 1] rfl
 obtain ⟨l10, a11, c12, rfl⟩ := hbr9.len
 have hst : St _ _ _ [blkI b1 86 [.slice a11 (p0.b).length c12, I p0.at_, I p0.field, I p0.e], _] := hst
 refine CW.region ?_
 refine pu 3 [(10, .pointer (some ⟨b1, 1, none⟩))] ?_
 refine OW.ld rfl rfl rfl rfl (by kernel_rfl) (hst.blk 0 rfl rfl) ?_
 refine pu 1 [(3, I p0.at_)] (nx (rg ?_))
 refine pu 1 [(12, Pt b1)] ?_
 have hst := hst.borIn hbo8
 obtain ⟨S22, hst⟩ := hst.shutP1 (R_t86 wb Sb) rfl 0 2 [1] rfl rfl rfl p0 rfl rfl
 obtain ⟨r23, hr24, hF⟩ := bs hF
 refine OW.fn rfl rfl rfl rfl (by kernel_rfl) (wire_reader_number_ok _ wb Sb (Pt b1) S22 p0 22 12 r23 hr24 (hst.part [1] rfl) (hb.on hst [1])) ?_
 rintro e w25 ⟨S27, rfl, hst26⟩
 refine ⟨_, rfl, ?_⟩
 have hst := hst.join (idx := [1]) (rest := [0]) rfl hst26
 refine pu 1 [(14, .agg [I r23.1, I 0, I 0, I 0, I 0].toArray)] ?_
 refine OW.alloc hst rfl rfl rfl [I 0, I 0, I 0, I 0, I 0] (by kernel_rfl) ?_
 intro b28 w29 hst
 refine OW.stB hst 2 rfl rfl rfl rfl rfl (by kernel_rfl) rfl rfl [I r23.1, I 0, I 0, I 0, I 0] rfl ?_
 intro w30 hst
 refine nx (rg ?_)
 refine pu 1 [(15, Pt b1)] ?_
 obtain ⟨r37, hr38, hF⟩ := bs hF
 refine OW.fn rfl rfl rfl rfl (by kernel_rfl) (wire_reader_number_ok _ wb Sb (Pt b1) S27 r23.2 63 12 r37 hr38 (hst.part [0] rfl) (hb.on hst [0])) ?_
 rintro e w39 ⟨S41, rfl, hst40⟩
 refine ⟨_, rfl, ?_⟩
 have hst := hst.join (idx := [0]) (rest := [1, 2]) rfl hst40
 refine pu 1 [(17, .pointer (some ⟨b28, 1, none⟩))] ?_
 refine OW.stB hst 2 rfl rfl rfl rfl rfl (by kernel_rfl) rfl rfl [I r23.1, I r37.1, I 0, I 0, I 0] rfl ?_
 intro w42 hst
 refine nx (rg ?_)
 refine pu 1 [(18, Pt b1)] ?_
 obtain ⟨r49, hr50, hF⟩ := bs hF
 refine OW.fn rfl rfl rfl rfl (by kernel_rfl) (wire_reader_number_ok _ wb Sb (Pt b1) S41 r37.2 63 12 r49 hr50 (hst.part [0] rfl) (hb.on hst [0])) ?_
 rintro e w51 ⟨S53, rfl, hst52⟩
 refine ⟨_, rfl, ?_⟩
 have hst := hst.join (idx := [0]) (rest := [1, 2]) rfl hst52
 refine pu 1 [(20, .pointer (some ⟨b28, 2, none⟩))] ?_
 refine OW.stB hst 2 rfl rfl rfl rfl rfl (by kernel_rfl) rfl rfl [I r23.1, I r37.1, I r49.1, I 0, I 0] rfl ?_
 intro w54 hst
 refine nx (rg ?_)
 refine pu 1 [(21, Pt b1)] ?_
 obtain ⟨r61, hr62, hF⟩ := bs hF
 refine OW.fn rfl rfl rfl rfl (by kernel_rfl) (wire_reader_number_ok _ wb Sb (Pt b1) S53 r49.2 63 12 r61 hr62 (hst.part [0] rfl) (hb.on hst [0])) ?_
 rintro e w63 ⟨S65, rfl, hst64⟩
 refine ⟨_, rfl, ?_⟩
 have hst := hst.join (idx := [0]) (rest := [1, 2]) rfl hst64
 refine pu 1 [(23, .pointer (some ⟨b28, 3, none⟩))] ?_
 refine OW.stB hst 2 rfl rfl rfl rfl rfl (by kernel_rfl) rfl rfl [I r23.1, I r37.1, I r49.1, I r61.1, I 0] rfl ?_
 intro w66 hst
 refine nx (CW.seq (CW.seq ?_))
 obtain ⟨v67, S68, hst⟩ := hst.openQ1 0 rfl rfl
 have hbo69 := hst.borOut 3 rfl
 have hbr70 := hbo69.bor hb
 have hst := hst.keep [0, 1, 2] rfl
 obtain ⟨l71, a72, c73, rfl⟩ := hbr70.len
 have hst : St _ _ _ [blkI b1 86 [.slice a72 (r61.2.b).length c73, I r61.2.at_, I r61.2.field, I r61.2.e], _, _] := hst
 refine CW.region ?_
 refine pu 3 [(26, .pointer (some ⟨b1, 3, none⟩))] ?_
 refine OW.ld rfl rfl rfl rfl (by kernel_rfl) (hst.blk 0 rfl rfl) ?_
 refine pu 1 [(28, .bool (r61.2.e != 0))] (nx ?_)
 refine br ((r61.2.e != 0)) hF (fun hF hc74 => ?_) (fun hF hc74 => ?_)
 ·refine rg ?_
  refine OW.ldN (cs := [I r23.1, I r37.1, I r49.1, I r61.1, I 0]) rfl rfl rfl rfl (by kernel_rfl) (by kernel_rfl) (hst.blkN 2 rfl 0 5) ?_
  refine OW.stB hst 1 rfl rfl rfl rfl rfl (by kernel_rfl) rfl rfl [I r23.1, I r37.1, I r49.1, I r61.1, I 0] rfl ?_
  intro w76 hst
  refine nx (CW.ret (QW.then_ret ?_))
  have hst := hst.borIn hbo69
  obtain ⟨S77, hst⟩ := hst.shutP1 (R_t86 wb Sb) rfl 0 3 [1, 2] rfl rfl rfl r61.2 rfl rfl
  obtain rfl := inj hF
  refine QW.ret_c rfl rfl (run_loadN (cs := [I r23.1, I r37.1, I r49.1, I r61.1, I 0]) (by kernel_rfl) (by kernel_rfl) (hst.blkN 0 rfl 0 5)) ?_
  exact ⟨S77, rfl, hst.keep [2] rfl⟩
 refine CW.skip (QW.next (rg ?_))
 refine pu 4 [(30, Pt b1), (33, .pointer (some ⟨b1, 1, none⟩))] ?_
 refine OW.ld rfl rfl rfl rfl (by kernel_rfl) (hst.blk 0 rfl rfl) ?_
 refine pu 2 [(36, .pointer (some ⟨b1, 2, none⟩))] ?_
 refine OW.stB hst 0 rfl rfl rfl rfl rfl (by kernel_rfl) rfl rfl [.slice a72 (r61.2.b).length c73, I r61.2.at_, I r61.2.at_, I r61.2.e] rfl ?_
 intro w79 hst
 refine nx (CW.seq ?_)
 refine CW.plan (by kernel_rfl) ?_
 intro w89 hch90
 have hst := hst.same hch90
 refine OA.pure [0, 1, 2] [(40, Pt b1)] (by kernel_rfl) ?_
 refine OA.ld (i := 3) rfl (by kernel_rfl) rfl rfl rfl (by kernel_rfl) (hst.blk 0 rfl rfl) ?_
 refine OA.pure [4, 5, 6] [(44, .pointer (some ⟨b1, 1, none⟩))] (by kernel_rfl) ?_
 refine OA.ld (i := 7) rfl (by kernel_rfl) rfl rfl rfl (by kernel_rfl) (hst.blk 0 rfl rfl) ?_
 obtain ⟨ys91, hcut92, hF⟩ := bs hF
 refine OA.val (i := 8) (v := .slice (shd a72 c73 (Int.toNat r61.2.at_) 1) (ys91).length (c73 - Int.toNat r61.2.at_)) rfl (by kernel_rfl) rfl rfl rfl rfl (fun a w ha => suf_run (e := 5) 1 rfl rfl rfl rfl hcut92 (by kernel_rfl) (by kernel_rfl) a w ha) ?_
 have hp93 := hbr70.part hcut92
 refine OA.act (i := 9) [] (by kernel_rfl) rfl rfl (by kernel_rfl) (by kernel_rfl) ?_
 obtain ⟨r94, hr95, hF⟩ := bs hF
 refine OW.fn rfl rfl rfl rfl (by kernel_rfl) (leb_GetInt_ok _ (.slice (shd a72 c73 (Int.toNat r61.2.at_) 1) (ys91).length (c73 - Int.toNat r61.2.at_)) ys91 r94 hr95 (hst.part [] rfl) (hp93.give hst [])) ?_
 rintro e w96 ⟨rfl, hst97⟩
 refine ⟨_, rfl, ?_⟩
 have hst := hst.join (idx := []) (rest := [0, 1, 2]) rfl hst97
 refine OA.next trivial ?_
 refine OA.pure [10, 11, 12, 13] [(48, I r94.1), (49, I r94.2.1), (50, I r94.2.2)] (by kernel_rfl) ?_
 refine OA.act (i := 14) [] (by kernel_rfl) rfl rfl (by kernel_rfl) (by kernel_rfl) ?_
 refine pu 1 [(5, I r94.1)] (OA.next trivial ?_)
 refine OA.act (i := 15) [] (by kernel_rfl) rfl rfl (by kernel_rfl) (by kernel_rfl) ?_
 refine pu 1 [(6, I r94.2.1)] (OA.next trivial ?_)
 refine OA.act (i := 16) [] (by kernel_rfl) rfl rfl (by kernel_rfl) (by kernel_rfl) ?_
 refine pu 1 [(7, I r94.2.2)] (OA.next trivial ?_)
 refine OA.fin (by kernel_rfl) (by kernel_rfl) (QW.next (rg ?_))
 refine pu 3 [(51, Pt b1), (53, .pointer (some ⟨b1, 1, none⟩))] ?_
 refine OW.ld rfl rfl rfl rfl (by kernel_rfl) (hst.blk 0 rfl rfl) ?_
 refine pu 4 [(56, I (w64 (r61.2.at_ + r94.2.1))), (58, .pointer (some ⟨b1, 1, none⟩))] ?_
 refine OW.stB hst 0 rfl rfl rfl rfl rfl (by kernel_rfl) rfl rfl [.slice a72 (r61.2.b).length c73, I (w64 (r61.2.at_ + r94.2.1)), I r61.2.at_, I r61.2.e] rfl ?_
 intro w99 hst
 refine nx (rg ?_)
 refine pu 2 [(59, I r94.1), (60, .pointer (some ⟨b28, 4, none⟩))] ?_
 refine OW.stB hst 2 rfl rfl rfl rfl rfl (by kernel_rfl) rfl rfl [I r23.1, I r37.1, I r49.1, I r61.1, I r94.1] rfl ?_
 intro w101 hst
 refine nx (CW.seq (rg ?_))
 refine pu 2 [(62, .bool (r94.2.2 != 0))] (nx ?_)
 refine br ((r94.2.2 != 0)) hF (fun hF hc102 => ?_) (fun hF hc102 => ?_)
 ·refine CW.region ?_
  refine pu 2 [(63, Pt b1), (64, I r94.2.2)] ?_
  have hst := hst.borIn hbo69
  obtain ⟨S109, hst⟩ := hst.shutP1 (R_t86 wb Sb) rfl 0 3 [1, 2] rfl rfl rfl (wire_reader.mk r61.2.b (w64 (r61.2.at_ + r94.2.1)) r61.2.at_ r61.2.e) rfl rfl
  obtain ⟨r110, hr111, hF⟩ := bs hF
  refine OW.fn rfl rfl rfl rfl (by kernel_rfl) (wire_reader_fail_ok _ wb Sb (Pt b1) S109 (wire_reader.mk r61.2.b (w64 (r61.2.at_ + r94.2.1)) r61.2.at_ r61.2.e) r94.2.2 r110 hr111 (hst.part [2] rfl) (hb.on hst [2])) ?_
  rintro e w112 ⟨S114, rfl, hst113⟩
  refine ⟨_, rfl, ?_⟩
  have hst := hst.join (idx := [2]) (rest := [0, 1]) rfl hst113
  refine nx (rg ?_)
  refine OW.ldN (cs := [I r23.1, I r37.1, I r49.1, I r61.1, I r94.1]) rfl rfl rfl rfl (by kernel_rfl) (by kernel_rfl) (hst.blkN 2 rfl 0 5) ?_
  refine OW.stB hst 1 rfl rfl rfl rfl rfl (by kernel_rfl) rfl rfl [I r23.1, I r37.1, I r49.1, I r61.1, I r94.1] rfl ?_
  intro w116 hst
  refine nx (CW.ret ?_)
  obtain rfl := inj hF
  refine QW.ret_c rfl rfl (run_loadN (cs := [I r23.1, I r37.1, I r49.1, I r61.1, I r94.1]) (by kernel_rfl) (by kernel_rfl) (hst.blkN 1 rfl 0 5)) ?_
  exact ⟨S114, rfl, hst.keep [0] rfl⟩
 refine rg ?_
 refine OW.ldN (cs := [I r23.1, I r37.1, I r49.1, I r61.1, I r94.1]) rfl rfl rfl rfl (by kernel_rfl) (by kernel_rfl) (hst.blkN 2 rfl 0 5) ?_
 refine OW.row (α := api_Inst) (e := 42) (enc := enc_api_Inst) (sz := 5) hst rfl rfl rfl [(api_Inst.mk r23.1 r37.1 r49.1 r61.1 r94.1)] rfl (fun _ => rfl) rfl rfl (fun _ => by kernel_rfl) ?_
 intro g123 w124 hst
 obtain ⟨r125, hr126, hF⟩ := bs hF
 refine OW.fn rfl rfl rfl rfl (by kernel_rfl) (ops_Right_ok _ (.slice (some ⟨g123, 0, none⟩) 1 1) ([(api_Inst.mk r23.1 r37.1 r49.1 r61.1 r94.1)]) r125 hr126 (hst.part [] rfl) (hst.rd 3 rfl (fun _ => rfl) [] rfl (hst.len 3 rfl).1) (hT0.give hst [])) ?_
 rintro e w127 ⟨rfl, hst128⟩
 refine ⟨_, rfl, ?_⟩
 have hst := hst.join (idx := []) (rest := [0, 1, 2, 3]) rfl hst128
 refine pu 1 [(69, .bool (!r125))] (nx ?_)
 refine br ((!r125)) hF (fun hF hc129 => ?_) (fun hF hc129 => ?_)
 ·refine rg ?_
  refine pu 4 [(71, I p0.at_), (73, .pointer (some ⟨b1, 2, none⟩))] ?_
  refine OW.stB hst 0 rfl rfl rfl rfl rfl (by kernel_rfl) rfl rfl [.slice a72 (r61.2.b).length c73, I (w64 (r61.2.at_ + r94.2.1)), I p0.at_, I r61.2.e] rfl ?_
  intro w131 hst
  refine nx (CW.region ?_)
  refine pu 1 [(74, Pt b1)] ?_
  have hst := hst.borIn hbo69
  obtain ⟨S138, hst⟩ := hst.shutP1 (R_t86 wb Sb) rfl 0 4 [1, 2, 3] rfl rfl rfl (wire_reader.mk r61.2.b (w64 (r61.2.at_ + r94.2.1)) p0.at_ r61.2.e) rfl rfl
  obtain ⟨r139, hr140, hF⟩ := bs hF
  refine OW.fn rfl rfl rfl rfl (by kernel_rfl) (wire_reader_fail_ok _ wb Sb (Pt b1) S138 (wire_reader.mk r61.2.b (w64 (r61.2.at_ + r94.2.1)) p0.at_ r61.2.e) 12 r139 hr140 (hst.part [3] rfl) (hb.on hst [3])) ?_
  rintro e w141 ⟨S143, rfl, hst142⟩
  refine ⟨_, rfl, ?_⟩
  have hst := hst.join (idx := [3]) (rest := [0, 1, 2]) rfl hst142
  refine nx (rg ?_)
  refine OW.ldN (cs := [I r23.1, I r37.1, I r49.1, I r61.1, I r94.1]) rfl rfl rfl rfl (by kernel_rfl) (by kernel_rfl) (hst.blkN 2 rfl 0 5) ?_
  refine OW.stB hst 1 rfl rfl rfl rfl rfl (by kernel_rfl) rfl rfl [I r23.1, I r37.1, I r49.1, I r61.1, I r94.1] rfl ?_
  intro w145 hst
  refine nx (CW.ret ?_)
  obtain rfl := inj hF
  refine QW.ret_c rfl rfl (run_loadN (cs := [I r23.1, I r37.1, I r49.1, I r61.1, I r94.1]) (by kernel_rfl) (by kernel_rfl) (hst.blkN 1 rfl 0 5)) ?_
  exact ⟨S143, rfl, hst.keep [0] rfl⟩
 refine CW.skip (QW.next (rg ?_))
 refine OW.ldN (cs := [I r23.1, I r37.1, I r49.1, I r61.1, I r94.1]) rfl rfl rfl rfl (by kernel_rfl) (by kernel_rfl) (hst.blkN 2 rfl 0 5) ?_
 refine OW.stB hst 1 rfl rfl rfl rfl rfl (by kernel_rfl) rfl rfl [I r23.1, I r37.1, I r49.1, I r61.1, I r94.1] rfl ?_
 intro w147 hst
 refine nx (CW.ret ?_)
 have hst := hst.borIn hbo69
 obtain ⟨S148, hst⟩ := hst.shutP1 (R_t86 wb Sb) rfl 0 4 [1, 2, 3] rfl rfl rfl (wire_reader.mk r61.2.b (w64 (r61.2.at_ + r94.2.1)) r61.2.at_ r61.2.e) rfl rfl
 obtain rfl := inj hF
 refine QW.ret_c rfl rfl (run_loadN (cs := [I r23.1, I r37.1, I r49.1, I r61.1, I r94.1]) (by kernel_rfl) (by kernel_rfl) (hst.blkN 0 rfl 0 5)) ?_
 exact ⟨S148, rfl, hst.keep [3] rfl⟩
theorem wire_Decode_ok (w : World) (wb : World) (Sb : List Nat) (fu : Nat) (v0 : Value) (p0 : List Int) (r : api_Module × Int × Int) (hF : wire_Decode fu p0 = some r)
    (hst : St w (fp []) w []) (hb : Bor wb Sb w (fp [])) (h0 : Rd wb Sb v0 (encInt .u8) 1 p0) (hT0 : Rd w (fp []) (.slice (some ⟨0, 0, none⟩) 23 23) enc_ops_form 2 tab_g0) :
    Calls Tryz.prog 10 [v0].toArray w (fun e w' => ∃ (x0_0 : Value) (x0_1 : Value), e = .returned (.tuple #[.agg [x0_0, x0_1].toArray, I r.2.1, I r.2.2]) ∧ St w (fp []) w' [rowI x0_0 3 (encInt .i64) 1 r.1.Maps, rowI x0_1 42 enc_api_Inst 5 r.1.Code]) := by
 refine CW.start (N := 102) Tryz.func10 rfl rfl rfl ?_
 have h0b := h0.bor hb
 obtain ⟨l1, a2, c3, rfl⟩ := h0b.len
 refine rg ?_
 refine OW.alloc hst rfl rfl rfl [.slice none 0 0, .slice none 0 0] (by kernel_rfl) ?_
 intro b6 w7 hst
 refine pu 2 [] (nx (rg ?_))
 refine pu 2 [(11, .agg [.slice a2 (p0).length c3, I 0, I 0, I 0].toArray)] ?_
 refine OW.box hst rfl rfl rfl rfl [.slice a2 (p0).length c3, I 0, I 0, I 0] rfl ?_
 intro b10 w11 hst
 refine pu 1 [(5, Pt b10)] (nx (rg ?_))
 refine OW.alloc hst rfl rfl rfl [.slice none 0 0, .slice none 0 0] (by kernel_rfl) ?_
 intro b14 w15 hst
 refine nx (rg ?_)
 refine pu 1 [(13, Pt b10)] ?_
 have hst := hst.borIn h0
 obtain ⟨S22, hst⟩ := hst.shutP1 (R_t86 wb Sb) rfl 1 3 [0, 2] rfl rfl rfl (wire_reader.mk p0 0 0 0) rfl rfl
 obtain ⟨r23, hr24, hF⟩ := bs hF
 refine OW.fn rfl rfl rfl rfl (by kernel_rfl) (wire_reader_begin_ok _ wb Sb fu (Pt b10) S22 (wire_reader.mk p0 0 0 0) r23 hr24 (hst.part [2] rfl) (hb.on hst [2])) ?_
 rintro e w25 ⟨S27, rfl, hst26⟩
 refine ⟨_, rfl, ?_⟩
 have hst := hst.join (idx := [2]) (rest := [0, 1]) rfl hst26
 refine nx (CW.seq (rg ?_))
 refine pu 1 [(15, Pt b10)] ?_
 obtain ⟨r33, hr34, hF⟩ := bs hF
 refine OW.fn rfl rfl rfl rfl (by kernel_rfl) (wire_reader_number_ok _ wb Sb (Pt b10) S27 r23 4 11 r33 hr34 (hst.part [0] rfl) (hb.on hst [0])) ?_
 rintro e w35 ⟨S37, rfl, hst36⟩
 refine ⟨_, rfl, ?_⟩
 have hst := hst.join (idx := [0]) (rest := [1, 2]) rfl hst36
 refine pu 1 [(17, I 0)] (nx ?_)
 obtain ⟨o282, ho283, hF⟩ := bs hF
 refine CW.cutK (fun a w1 => ∃ (S280 : List Nat) (v281 : Value), Rep 102 [(0, .slice a2 (p0).length c3), (2, Pt b6), (5, Pt b10), (6, Pt b14)] a ∧ St w (fp []) w1 [blkI b6 31 [.slice none 0 0, .slice none 0 0], itI (R_t84 wb Sb) [Pt b10] S280 o282.1, blkI b14 31 [v281, .slice none 0 0], rowI v281 3 (encInt .i64) 1 o282.2]) ?_ ?_
 ·refine CW.block ?_
  have hst := hst.nilRow Int 3 (encInt .i64) 1
  refine CW.loop (fun n a w1 => ∃ (s447 : wire_reader × (List Int) × Int) (S448 : List Nat) (v449 : Value), Rep 102 [(0, .slice a2 (p0).length c3), (2, Pt b6), (5, Pt b10), (6, Pt b14), (16, I r33.1), (17, I s447.2.2)] a ∧ St w (fp []) w1 [blkI b6 31 [.slice none 0 0, .slice none 0 0], itI (R_t84 wb Sb) [Pt b10] S448 s447.1, blkI b14 31 [v449, .slice none 0 0], rowI v449 3 (encInt .i64) 1 s447.2.1] ∧ loop (wire_Decode_l1 r33) n s447 = some o282) fu (fun a ha => ⟨(r33.2, ([] : List Int), 0), S37, (.slice none 0 0), ha.ag, hst.keep [1, 0, 2, 3] rfl, ho283⟩) ?_
  rintro n445 a w1 ⟨s447, S448, v449, ha, hst, hl446⟩
  rcases n445 with _ | n445
  ·exact (loop_zero hl446).elim
  refine CW.go ?_ ha
  obtain ⟨l450, a451, c452, rfl⟩ := hst.len 3 rfl
  refine rg ?_
  refine pu 1 [(18, .bool (decide (s447.2.2 < r33.1)))] (nx (CW.seq ?_))
  refine br (decide (s447.2.2 < r33.1)) hl446 (fun hl446 hc453 => ?_) (fun hl446 hc453 => ?_)
  ·refine CW.skip (QW.next (CW.seq (CW.block (rg ?_))))
   refine pu 1 [(19, Pt b10)] ?_
   obtain ⟨r459, hr460, hl446⟩ := bs hl446
   refine OW.fn rfl rfl rfl rfl (by kernel_rfl) (wire_reader_number_ok _ wb Sb (Pt b10) S448 s447.1 3 12 r459 hr460 (hst.part [1] rfl) (hb.on hst [1])) ?_
   rintro e w461 ⟨S463, rfl, hst462⟩
   refine ⟨_, rfl, ?_⟩
   have hst := hst.join (idx := [1]) (rest := [0, 2, 3]) rfl hst462
   refine pu 1 [(7, I r459.1)] (nx (CW.seq (rg ?_)))
   refine pu 1 [(21, Pt b14)] ?_
   refine OW.ld rfl rfl rfl rfl (by kernel_rfl) (hst.blk 2 rfl rfl) ?_
   refine pu 1 [(23, I r459.1)] ?_
   obtain ⟨r468, hr469, hl446⟩ := bs hl446
   refine OW.fn rfl rfl rfl rfl (by kernel_rfl) (slices_Contains_int_int_ok _ (.slice a451 (s447.2.1).length c452) s447.2.1 r459.1 r468 hr469 (hst.part [] rfl) (hst.rd 3 rfl (fun _ => rfl) [] rfl (hst.len 3 rfl).1)) ?_
   rintro e w470 ⟨rfl, hst471⟩
   refine ⟨_, rfl, ?_⟩
   have hst := hst.join (idx := []) (rest := [0, 1, 2, 3]) rfl hst471
   refine nx ?_
   obtain ⟨o484, ho485, hl446⟩ := bs hl446
   refine CW.cutK (fun a w1 => ∃ (S483 : List Nat), Rep 102 [(0, .slice a2 (p0).length c3), (2, Pt b6), (5, Pt b10), (6, Pt b14), (7, I r459.1), (16, I r33.1), (17, I s447.2.2)] a ∧ St w (fp []) w1 [blkI b6 31 [.slice none 0 0, .slice none 0 0], itI (R_t84 wb Sb) [Pt b10] S483 o484, blkI b14 31 [.slice a451 (s447.2.1).length c452, .slice none 0 0], rowI (.slice a451 (s447.2.1).length c452) 3 (encInt .i64) 1 s447.2.1]) ?_ ?_
   ·refine br (r468) ho485 (fun ho485 hc486 => ?_) (fun ho485 hc486 => ?_)
    ·refine CW.region ?_
     refine pu 1 [(25, Pt b10)] ?_
     obtain ⟨r492, hr493, ho485⟩ := bs ho485
     refine OW.fn rfl rfl rfl rfl (by kernel_rfl) (wire_reader_fail_ok _ wb Sb (Pt b10) S463 r459.2 12 r492 hr493 (hst.part [0] rfl) (hb.on hst [0])) ?_
     rintro e w494 ⟨S496, rfl, hst495⟩
     refine ⟨_, rfl, ?_⟩
     have hst := hst.join (idx := [0]) (rest := [1, 2, 3]) rfl hst495
     refine OW.nil rfl ?_
     obtain rfl := inj ho485
     exact QW.meet (fun a ha => ⟨S496, ha.ag, hst.keep [1, 0, 2, 3] rfl⟩)
    refine CW.skip ?_
    obtain rfl := inj ho485
    exact QW.meet (fun a ha => ⟨S463, ha.ag, hst.keep [1, 0, 2, 3] rfl⟩)
   rintro a w1 ⟨S483, ha, hst⟩
   refine CW.go ?_ ha
   refine CW.seq (CW.seq ?_)
   obtain ⟨v497, S498, hst⟩ := hst.openQ1 1 rfl rfl
   have hbo499 := hst.borOut 4 rfl
   have hbr500 := hbo499.bor hb
   have hst := hst.keep [0, 1, 2, 3] rfl
   obtain ⟨l501, a502, c503, rfl⟩ := hbr500.len
   have hst : St _ _ _ [_, blkI b10 86 [.slice a502 (o484.b).length c503, I o484.at_, I o484.field, I o484.e], _, _] := hst
   refine CW.region ?_
   refine pu 3 [(29, .pointer (some ⟨b10, 3, none⟩))] ?_
   refine OW.ld rfl rfl rfl rfl (by kernel_rfl) (hst.blk 1 rfl rfl) ?_
   refine pu 1 [(31, .bool (o484.e != 0))] (nx ?_)
   refine br ((o484.e != 0)) hl446 (fun hl446 hc504 => ?_) (fun hl446 hc504 => ?_)
   ·refine CW.exit (QW.then_exit ?_)
    refine QW.block_on rfl (QW.then_exit (QW.then_exit ?_))
    refine QW.block_here ?_
    have hst := hst.borIn hbo499
    obtain ⟨S505, hst⟩ := hst.shutP1 (R_t86 wb Sb) rfl 1 4 [0, 2, 3] rfl rfl rfl o484 rfl rfl
    obtain rfl := inj hl446
    exact QW.meet (fun a ha => ⟨S505, (.slice a451 (s447.2.1).length c452), ha.ag, hst.keep [0, 3, 1, 2] rfl⟩)
   refine CW.skip (QW.next (CW.region ?_))
   refine pu 1 [(32, Pt b14)] ?_
   refine OW.ld rfl rfl rfl rfl (by kernel_rfl) (hst.blk 2 rfl rfl) ?_
   refine pu 1 [(34, I r459.1)] ?_
   refine OW.row (α := Int) (e := 3) (enc := encInt .i64) (sz := 1) hst rfl rfl rfl [r459.1] rfl (fun _ => rfl) rfl rfl (fun _ => by kernel_rfl) ?_
   intro g517 w518 hst
   obtain ⟨u519, hr520, hl446⟩ := bs hl446
   refine OW.app hst 3 rfl (fun _ => rfl) (fun _ => rfl) rfl rfl rfl rfl rfl rfl (by kernel_rfl) el3 (hst.rd 4 rfl (fun _ => rfl) [] rfl (hst.len 4 rfl).1) (room_le hr520) ?_
   intro v521 w522 hst
   obtain ⟨l523, a524, c525, rfl⟩ := hst.len 3 rfl
   refine pu 1 [(37, Pt b14)] ?_
   refine OW.stB hst 2 rfl rfl rfl rfl rfl (by kernel_rfl) rfl rfl [.slice a524 ((s447.2.1 ++ [r459.1])).length c525, .slice none 0 0] rfl ?_
   intro w526 hst
   refine OW.nil rfl (QW.block_normal (QW.next (CW.region ?_)))
   refine pu 2 [(17, I (w64 (s447.2.2 + 1)))] (OW.nil rfl ?_)
   have hst := hst.borIn hbo499
   obtain ⟨S527, hst⟩ := hst.shutP1 (R_t86 wb Sb) rfl 1 5 [0, 2, 3, 4] rfl rfl rfl o484 rfl rfl
   exact QW.meet (fun a ha => ⟨n445, Nat.lt_succ_self _, (o484, (s447.2.1 ++ [r459.1]), w64 (s447.2.2 + 1)), S527, (.slice a524 ((s447.2.1 ++ [r459.1])).length c525), ha.ag, hst.keep [0, 4, 1, 2] rfl, hl446⟩)
  refine CW.exit (QW.then_exit (QW.then_exit ?_))
  refine QW.block_here ?_
  obtain rfl := inj hl446
  exact QW.meet (fun a ha => ⟨S448, (.slice a451 (s447.2.1).length c452), ha.ag, hst.keep [0, 1, 2, 3] rfl⟩)
 rintro a w1 ⟨S280, v281, ha, hst⟩
 refine CW.go ?_ ha
 obtain ⟨l530, a531, c532, rfl⟩ := hst.len 3 rfl
 refine rg ?_
 refine pu 1 [(39, Pt b10)] ?_
 obtain ⟨r538, hr539, hF⟩ := bs hF
 refine OW.fn rfl rfl rfl rfl (by kernel_rfl) (wire_reader_number_ok _ wb Sb (Pt b10) S280 o282.1 64 11 r538 hr539 (hst.part [1] rfl) (hb.on hst [1])) ?_
 rintro e w540 ⟨S542, rfl, hst541⟩
 refine ⟨_, rfl, ?_⟩
 have hst := hst.join (idx := [1]) (rest := [0, 2, 3]) rfl hst541
 refine pu 1 [(8, I r538.1)] (nx (CW.seq (rg ?_)))
 refine pu 2 [(42, .bool (r538.1 == 0))] (nx ?_)
 obtain ⟨o555, ho556, hF⟩ := bs hF
 refine CW.cutK (fun a w1 => ∃ (S554 : List Nat), Rep 102 [(0, .slice a2 (p0).length c3), (2, Pt b6), (5, Pt b10), (6, Pt b14), (8, I r538.1)] a ∧ St w (fp []) w1 [blkI b6 31 [.slice none 0 0, .slice none 0 0], itI (R_t84 wb Sb) [Pt b10] S554 o555, blkI b14 31 [.slice a531 (o282.2).length c532, .slice none 0 0], rowI (.slice a531 (o282.2).length c532) 3 (encInt .i64) 1 o282.2]) ?_ ?_
 ·refine br ((r538.1 == 0)) ho556 (fun ho556 hc557 => ?_) (fun ho556 hc557 => ?_)
  ·refine CW.region ?_
   refine pu 1 [(43, Pt b10)] ?_
   obtain ⟨r563, hr564, ho556⟩ := bs ho556
   refine OW.fn rfl rfl rfl rfl (by kernel_rfl) (wire_reader_fail_ok _ wb Sb (Pt b10) S542 r538.2 12 r563 hr564 (hst.part [0] rfl) (hb.on hst [0])) ?_
   rintro e w565 ⟨S567, rfl, hst566⟩
   refine ⟨_, rfl, ?_⟩
   have hst := hst.join (idx := [0]) (rest := [1, 2, 3]) rfl hst566
   refine OW.nil rfl ?_
   obtain rfl := inj ho556
   exact QW.meet (fun a ha => ⟨S567, ha.ag, hst.keep [1, 0, 2, 3] rfl⟩)
  refine CW.skip ?_
  obtain rfl := inj ho556
  exact QW.meet (fun a ha => ⟨S542, ha.ag, hst.keep [1, 0, 2, 3] rfl⟩)
 rintro a w1 ⟨S554, ha, hst⟩
 refine CW.go ?_ ha
 refine CW.seq (rg ?_)
 refine pu 1 [(9, I 0)] (nx ?_)
 obtain ⟨o728, ho729, hF⟩ := bs hF
 refine CW.cutK (fun a w1 => ∃ (S726 : List Nat) (v727 : Value), Rep 102 [(0, .slice a2 (p0).length c3), (2, Pt b6), (5, Pt b10), (6, Pt b14)] a ∧ St w (fp []) w1 [blkI b6 31 [.slice none 0 0, .slice none 0 0], itI (R_t84 wb Sb) [Pt b10] S726 o728.1, blkI b14 31 [.slice a531 (o282.2).length c532, v727], rowI (.slice a531 (o282.2).length c532) 3 (encInt .i64) 1 o282.2, rowI v727 42 enc_api_Inst 5 o728.2]) ?_ ?_
 ·refine CW.block ?_
  have hst := hst.nilRow api_Inst 42 enc_api_Inst 5
  refine CW.loop (fun n a w1 => ∃ (s836 : wire_reader × (List api_Inst) × Int) (S837 : List Nat) (v838 : Value), Rep 102 [(0, .slice a2 (p0).length c3), (2, Pt b6), (5, Pt b10), (6, Pt b14), (8, I r538.1), (9, I s836.2.2)] a ∧ St w (fp []) w1 [blkI b6 31 [.slice none 0 0, .slice none 0 0], itI (R_t84 wb Sb) [Pt b10] S837 s836.1, blkI b14 31 [.slice a531 (o282.2).length c532, v838], rowI (.slice a531 (o282.2).length c532) 3 (encInt .i64) 1 o282.2, rowI v838 42 enc_api_Inst 5 s836.2.1] ∧ loop (wire_Decode_l2 r538) n s836 = some o728) fu (fun a ha => ⟨(o555, ([] : List api_Inst), 0), S554, (.slice none 0 0), ha.ag, hst.keep [0, 1, 2, 3, 4] rfl, ho729⟩) ?_
  rintro n834 a w1 ⟨s836, S837, v838, ha, hst, hl835⟩
  rcases n834 with _ | n834
  ·exact (loop_zero hl835).elim
  refine CW.go ?_ ha
  obtain ⟨l839, a840, c841, rfl⟩ := hst.len 4 rfl
  refine CW.seq (CW.seq ?_)
  obtain ⟨v842, S843, hst⟩ := hst.openQ1 1 rfl rfl
  have hbo844 := hst.borOut 5 rfl
  have hbr845 := hbo844.bor hb
  have hst := hst.keep [0, 1, 2, 3, 4] rfl
  obtain ⟨l846, a847, c848, rfl⟩ := hbr845.len
  have hst : St _ _ _ [_, blkI b10 86 [.slice a847 (s836.1.b).length c848, I s836.1.at_, I s836.1.field, I s836.1.e], _, _, _] := hst
  refine CW.cutK (fun a w1 => Rep 102 [(0, .slice a2 (p0).length c3), (2, Pt b6), (5, Pt b10), (6, Pt b14), (8, I r538.1), (9, I s836.2.2), (54, .bool (decide (s836.2.2 < r538.1) && (s836.1.e == 0)))] a ∧ St w (fp []) w1 [blkI b6 31 [.slice none 0 0, .slice none 0 0], blkI b10 86 [.slice a847 (s836.1.b).length c848, I s836.1.at_, I s836.1.field, I s836.1.e], blkI b14 31 [.slice a531 (o282.2).length c532, .slice a840 (s836.2.1).length c841], rowI (.slice a531 (o282.2).length c532) 3 (encInt .i64) 1 o282.2, rowI (.slice a840 (s836.2.1).length c841) 42 enc_api_Inst 5 s836.2.1]) ?_ ?_
  ·refine CW.region ?_
   refine pu 4 [(48, .bool (decide (s836.2.2 < r538.1)))] ?_
   refine OW.split 48 rfl (fun hc849 => ?_) (fun hc849 => ?_)
   ·refine pu 3 [(51, .pointer (some ⟨b10, 3, none⟩))] ?_
    refine OW.ld rfl rfl rfl rfl (by kernel_rfl) (hst.blk 1 rfl rfl) ?_
    refine pu 2 [(54, .bool (s836.1.e == 0))] (OW.nil rfl ?_)
    refine QW.say 54 (v := .bool (decide (s836.2.2 < r538.1) && (s836.1.e == 0))) rfl (by first | (rw [hc849]; done) | (rw [hc849]; rfl) | simp [hc849]) ?_
    exact QW.meet (fun a ha => ⟨ha.ag, hst.keep [0, 1, 2, 3, 4] rfl⟩)
   refine pu 6 [(54, .bool false)] (OW.nil rfl ?_)
   refine QW.say 54 (v := .bool (decide (s836.2.2 < r538.1) && (s836.1.e == 0))) rfl (by first | (rw [hc849]; done) | (rw [hc849]; rfl) | simp [hc849]) ?_
   exact QW.meet (fun a ha => ⟨ha.ag, hst.keep [0, 1, 2, 3, 4] rfl⟩)
  rintro a w1 ⟨ha, hst⟩
  refine CW.go ?_ ha
  refine br ((decide (s836.2.2 < r538.1) && (s836.1.e == 0))) hl835 (fun hl835 hc850 => ?_) (fun hl835 hc850 => ?_)
  ·refine CW.skip (QW.next (CW.seq (CW.block ?_)))
   refine CW.plan (by kernel_rfl) ?_
   intro w869 hch870
   have hst := hst.same hch870
   refine OA.pure [0] [(57, .pointer (some ⟨b14, 1, none⟩))] (by kernel_rfl) ?_
   refine OA.ld (i := 1) rfl (by kernel_rfl) rfl rfl rfl (by kernel_rfl) (hst.blk 2 rfl rfl) ?_
   refine OA.pure [2] [(59, Pt b10)] (by kernel_rfl) ?_
   refine OA.act (i := 3) [1] (by kernel_rfl) rfl rfl (by kernel_rfl) (by kernel_rfl) ?_
   have hst := hst.borIn hbo844
   obtain ⟨S871, hst⟩ := hst.shutP1 (R_t86 wb Sb) rfl 1 5 [0, 2, 3, 4] rfl rfl rfl s836.1 rfl rfl
   obtain ⟨r872, hr873, hl835⟩ := bs hl835
   refine OW.fn rfl rfl rfl rfl (by kernel_rfl) (wire_reader_inst_ok _ wb Sb (Pt b10) S871 s836.1 r872 hr873 (hst.part [4] rfl) (hb.on hst [4]) (hT0.give hst [4])) ?_
   rintro e w874 ⟨S876, rfl, hst875⟩
   refine ⟨_, rfl, ?_⟩
   have hst := hst.join (idx := [4]) (rest := [0, 1, 2, 3]) rfl hst875
   refine OA.next ⟨(hst.blk 2 rfl rfl), trivial⟩ ?_
   refine OA.act (i := 4) [1] (by kernel_rfl) rfl rfl (by kernel_rfl) (by kernel_rfl) ?_
   refine OW.row (α := api_Inst) (e := 42) (enc := enc_api_Inst) (sz := 5) hst rfl rfl rfl [r872.1] rfl (fun _ => rfl) rfl rfl (fun _ => by kernel_rfl) ?_
   intro g877 w878 hst
   refine OA.next ⟨(hst.blk 2 rfl rfl), trivial⟩ ?_
   refine OA.act (i := 5) [] (by kernel_rfl) rfl rfl (by kernel_rfl) (by kernel_rfl) ?_
   obtain ⟨u879, hr880, hl835⟩ := bs hl835
   refine OW.app hst 4 rfl (fun _ => rfl) (fun _ => rfl) rfl rfl rfl rfl rfl rfl (by kernel_rfl) el42 (hst.rd 5 rfl (fun _ => rfl) [] rfl (hst.len 5 rfl).1) (room_le hr880) ?_
   intro v881 w882 hst
   obtain ⟨l883, a884, c885, rfl⟩ := hst.len 4 rfl
   refine OA.next trivial ?_
   refine OA.pure [6] [(63, .pointer (some ⟨b14, 1, none⟩))] (by kernel_rfl) ?_
   refine OA.act (i := 7) [] (by kernel_rfl) rfl rfl (by kernel_rfl) (by kernel_rfl) ?_
   refine OW.stB hst 2 rfl rfl rfl rfl rfl (by kernel_rfl) rfl rfl [.slice a531 (o282.2).length c532, .slice a884 ((s836.2.1 ++ [r872.1])).length c885] rfl ?_
   intro w886 hst
   refine OA.next trivial ?_
   refine OA.fin (by kernel_rfl) (by kernel_rfl) (QW.block_normal (QW.next (CW.region ?_)))
   refine pu 3 [(9, I (w64 (s836.2.2 + 1)))] (OW.nil rfl ?_)
   exact QW.meet (fun a ha => ⟨n834, Nat.lt_succ_self _, (r872.2, (s836.2.1 ++ [r872.1]), w64 (s836.2.2 + 1)), S876, (.slice a884 ((s836.2.1 ++ [r872.1])).length c885), ha.ag, hst.keep [1, 0, 2, 3, 4] rfl, hl835⟩)
  refine CW.exit (QW.then_exit (QW.then_exit ?_))
  refine QW.block_here ?_
  have hst := hst.borIn hbo844
  obtain ⟨S888, hst⟩ := hst.shutP1 (R_t86 wb Sb) rfl 1 5 [0, 2, 3, 4] rfl rfl rfl s836.1 rfl rfl
  obtain rfl := inj hl835
  exact QW.meet (fun a ha => ⟨S888, (.slice a840 (s836.2.1).length c841), ha.ag, hst.keep [0, 4, 1, 2, 3] rfl⟩)
 rintro a w1 ⟨S726, v727, ha, hst⟩
 refine CW.go ?_ ha
 obtain ⟨l890, a891, c892, rfl⟩ := hst.len 4 rfl
 refine CW.seq (CW.seq ?_)
 obtain ⟨v893, S894, hst⟩ := hst.openQ1 1 rfl rfl
 have hbo895 := hst.borOut 5 rfl
 have hbr896 := hbo895.bor hb
 have hst := hst.keep [0, 1, 2, 3, 4] rfl
 obtain ⟨l897, a898, c899, rfl⟩ := hbr896.len
 have hst : St _ _ _ [_, blkI b10 86 [.slice a898 (o728.1.b).length c899, I o728.1.at_, I o728.1.field, I o728.1.e], _, _, _] := hst
 refine CW.cutK (fun a w1 => Rep 102 [(2, Pt b6), (5, Pt b10), (6, Pt b14), (77, .bool ((o728.1.e == 0) && decide (o728.1.at_ < ((p0).length : Int))))] a ∧ St w (fp []) w1 [blkI b6 31 [.slice none 0 0, .slice none 0 0], blkI b10 86 [.slice a898 (o728.1.b).length c899, I o728.1.at_, I o728.1.field, I o728.1.e], blkI b14 31 [.slice a531 (o282.2).length c532, .slice a891 (o728.2).length c892], rowI (.slice a531 (o282.2).length c532) 3 (encInt .i64) 1 o282.2, rowI (.slice a891 (o728.2).length c892) 42 enc_api_Inst 5 o728.2]) ?_ ?_
 ·refine CW.region ?_
  refine pu 3 [(66, .pointer (some ⟨b10, 3, none⟩))] ?_
  refine OW.ld rfl rfl rfl rfl (by kernel_rfl) (hst.blk 1 rfl rfl) ?_
  refine pu 2 [(69, .bool (o728.1.e == 0))] ?_
  refine OW.split 69 rfl (fun hc900 => ?_) (fun hc900 => ?_)
  ·refine pu 3 [(72, .pointer (some ⟨b10, 1, none⟩))] ?_
   refine OW.ld rfl rfl rfl rfl (by kernel_rfl) (hst.blk 1 rfl rfl) ?_
   refine pu 4 [(77, .bool (decide (o728.1.at_ < ((p0).length : Int))))] (OW.nil rfl ?_)
   refine QW.say 77 (v := .bool ((o728.1.e == 0) && decide (o728.1.at_ < ((p0).length : Int)))) rfl (by first | (rw [hc900]; done) | (rw [hc900]; rfl) | simp [hc900]) ?_
   exact QW.meet (fun a ha => ⟨ha.ag, hst.keep [0, 1, 2, 3, 4] rfl⟩)
  refine pu 8 [(77, .bool false)] (OW.nil rfl ?_)
  refine QW.say 77 (v := .bool ((o728.1.e == 0) && decide (o728.1.at_ < ((p0).length : Int)))) rfl (by first | (rw [hc900]; done) | (rw [hc900]; rfl) | simp [hc900]) ?_
  exact QW.meet (fun a ha => ⟨ha.ag, hst.keep [0, 1, 2, 3, 4] rfl⟩)
 rintro a w1 ⟨ha, hst⟩
 refine CW.go ?_ ha
 obtain ⟨o918, ho919, hF⟩ := bs hF
 refine CW.cutK (fun a w1 => ∃ (S917 : List Nat), Rep 102 [(2, Pt b6), (5, Pt b10), (6, Pt b14)] a ∧ St w (fp []) w1 [blkI b6 31 [.slice none 0 0, .slice none 0 0], itI (R_t84 wb Sb) [Pt b10] S917 o918, blkI b14 31 [.slice a531 (o282.2).length c532, .slice a891 (o728.2).length c892], rowI (.slice a531 (o282.2).length c532) 3 (encInt .i64) 1 o282.2, rowI (.slice a891 (o728.2).length c892) 42 enc_api_Inst 5 o728.2]) ?_ ?_
 ·refine br (((o728.1.e == 0) && decide (o728.1.at_ < ((p0).length : Int)))) ho919 (fun ho919 hc920 => ?_) (fun ho919 hc920 => ?_)
  ·refine rg ?_
   refine pu 4 [(78, Pt b10), (81, .pointer (some ⟨b10, 1, none⟩))] ?_
   refine OW.ld rfl rfl rfl rfl (by kernel_rfl) (hst.blk 1 rfl rfl) ?_
   refine pu 2 [(84, .pointer (some ⟨b10, 2, none⟩))] ?_
   refine OW.stB hst 1 rfl rfl rfl rfl rfl (by kernel_rfl) rfl rfl [.slice a898 (o728.1.b).length c899, I o728.1.at_, I o728.1.at_, I o728.1.e] rfl ?_
   intro w922 hst
   refine nx (CW.region ?_)
   refine pu 1 [(85, Pt b10)] ?_
   have hst := hst.borIn hbo895
   obtain ⟨S929, hst⟩ := hst.shutP1 (R_t86 wb Sb) rfl 1 5 [0, 2, 3, 4] rfl rfl rfl (wire_reader.mk o728.1.b o728.1.at_ o728.1.at_ o728.1.e) rfl rfl
   obtain ⟨r930, hr931, ho919⟩ := bs ho919
   refine OW.fn rfl rfl rfl rfl (by kernel_rfl) (wire_reader_fail_ok _ wb Sb (Pt b10) S929 (wire_reader.mk o728.1.b o728.1.at_ o728.1.at_ o728.1.e) 13 r930 hr931 (hst.part [4] rfl) (hb.on hst [4])) ?_
   rintro e w932 ⟨S934, rfl, hst933⟩
   refine ⟨_, rfl, ?_⟩
   have hst := hst.join (idx := [4]) (rest := [0, 1, 2, 3]) rfl hst933
   refine OW.nil rfl ?_
   obtain rfl := inj ho919
   exact QW.meet (fun a ha => ⟨S934, ha.ag, hst.keep [1, 0, 2, 3, 4] rfl⟩)
  refine CW.skip ?_
  have hst := hst.borIn hbo895
  obtain ⟨S935, hst⟩ := hst.shutP1 (R_t86 wb Sb) rfl 1 5 [0, 2, 3, 4] rfl rfl rfl o728.1 rfl rfl
  obtain rfl := inj ho919
  exact QW.meet (fun a ha => ⟨S935, ha.ag, hst.keep [0, 4, 1, 2, 3] rfl⟩)
 rintro a w1 ⟨S917, ha, hst⟩
 refine CW.go ?_ ha
 refine CW.seq (CW.seq ?_)
 obtain ⟨v936, S937, hst⟩ := hst.openQ1 1 rfl rfl
 have hbo938 := hst.borOut 5 rfl
 have hbr939 := hbo938.bor hb
 have hst := hst.keep [0, 1, 2, 3, 4] rfl
 obtain ⟨l940, a941, c942, rfl⟩ := hbr939.len
 have hst : St _ _ _ [_, blkI b10 86 [.slice a941 (o918.b).length c942, I o918.at_, I o918.field, I o918.e], _, _, _] := hst
 refine CW.region ?_
 refine pu 3 [(89, .pointer (some ⟨b10, 3, none⟩))] ?_
 refine OW.ld rfl rfl rfl rfl (by kernel_rfl) (hst.blk 1 rfl rfl) ?_
 refine pu 1 [(91, .bool (o918.e != 0))] (nx ?_)
 refine br ((o918.e != 0)) hF (fun hF hc943 => ?_) (fun hF hc943 => ?_)
 ·refine CW.seq ?_
  refine CW.plan (by kernel_rfl) ?_
  intro w947 hch948
  have hst := hst.same hch948
  refine OA.pure [0, 1, 2, 3] [(92, .agg [.slice none 0 0, .slice none 0 0].toArray), (95, .pointer (some ⟨b10, 2, none⟩))] (by kernel_rfl) ?_
  refine OA.ld (i := 4) rfl (by kernel_rfl) rfl rfl rfl (by kernel_rfl) (hst.blk 1 rfl rfl) ?_
  refine OA.pure [5, 6, 7] [(99, .pointer (some ⟨b10, 3, none⟩))] (by kernel_rfl) ?_
  refine OA.ld (i := 8) rfl (by kernel_rfl) rfl rfl rfl (by kernel_rfl) (hst.blk 1 rfl rfl) ?_
  refine OA.act (i := 9) [8, 4] (by kernel_rfl) rfl rfl (by kernel_rfl) (by kernel_rfl) ?_
  refine OW.stB hst 0 rfl rfl rfl rfl rfl (by kernel_rfl) rfl rfl [.slice none 0 0, .slice none 0 0] rfl ?_
  intro w949 hst
  refine OA.next ⟨(hst.blk 1 rfl rfl), (hst.blk 1 rfl rfl), trivial⟩ ?_
  refine OA.act (i := 10) [8] (by kernel_rfl) rfl rfl (by kernel_rfl) (by kernel_rfl) ?_
  refine pu 1 [(3, I o918.field)] ?_
  refine OA.next ⟨(hst.blk 1 rfl rfl), trivial⟩ ?_
  refine OA.act (i := 11) [] (by kernel_rfl) rfl rfl (by kernel_rfl) (by kernel_rfl) ?_
  refine pu 1 [(4, I o918.e)] (OA.next trivial ?_)
  refine OA.fin (by kernel_rfl) (by kernel_rfl) (QW.next (CW.ret (QW.then_ret ?_)))
  have hst := hst.nilRow Int 3 (encInt .i64) 1
  have hst := hst.nilRow api_Inst 42 enc_api_Inst 5
  obtain rfl := inj hF
  refine QW.ret_ctt rfl rfl (run_loadN (cs := [.slice none 0 0, .slice none 0 0]) (by kernel_rfl) (by kernel_rfl) (hst.blkN 0 rfl 0 2)) rfl rfl ?_
  exact ⟨(.slice none 0 0), (.slice none 0 0), rfl, hst.keep [5, 6] rfl⟩
 refine CW.skip (QW.next (rg ?_))
 refine OW.ldN (cs := [.slice a531 (o282.2).length c532, .slice a891 (o728.2).length c892]) rfl rfl rfl rfl (by kernel_rfl) (by kernel_rfl) (hst.blkN 2 rfl 0 2) ?_
 refine OW.stB hst 0 rfl rfl rfl rfl rfl (by kernel_rfl) rfl rfl [.slice a531 (o282.2).length c532, .slice a891 (o728.2).length c892] rfl ?_
 intro w951 hst
 refine pu 2 [(3, I 0), (4, I 0)] (nx (CW.ret ?_))
 obtain rfl := inj hF
 refine QW.ret_ctt rfl rfl (run_loadN (cs := [.slice a531 (o282.2).length c532, .slice a891 (o728.2).length c892]) (by kernel_rfl) (by kernel_rfl) (hst.blkN 0 rfl 0 2)) rfl rfl ?_
 exact ⟨(.slice a531 (o282.2).length c532), (.slice a891 (o728.2).length c892), rfl, hst.keep [3, 4] rfl⟩
theorem judge_good_ok (w : World) (v0 : Value) (p0 : List Int) (r : Bool) (hF : judge_good p0 = some r)
    (hst : St w (fp []) w []) (h0 : Rd w (fp []) v0 (encInt .i64) 1 p0) :
    Calls Tryz.prog 74 [v0].toArray w (fun e w' => e = .returned (.bool r) ∧ St w (fp []) w' []) := by
 refine CW.start (N := 29) Tryz.func74 rfl rfl rfl ?_
 obtain ⟨l1, a2, c3, rfl⟩ := h0.len
 refine rg ?_
 refine pu 1 [] (nx (CW.seq (rg ?_)))
 refine pu 3 [(5, .slice a2 (p0).length c3), (6, I ((p0).length : Int)), (7, I 0)] (nx ?_)
 obtain ⟨o112, ho113, hF⟩ := bs hF
 refine CW.cutK (fun a w1 => ∃ (t114 : Unit), o112 = .inl t114 ∧ Rep 29 [(0, .slice a2 (p0).length c3)] a ∧ St w (fp []) w1 []) ?_ ?_
 ·refine CW.block ?_
  refine CW.loop (fun n a w1 => ∃ (i187 : Nat) (s186 : Unit), i187 + n = (p0).length ∧ Rep 29 [(0, .slice a2 (p0).length c3), (5, .slice a2 (p0).length c3), (6, I ((p0).length : Int)), (7, I (i187 : Int))] a ∧ St w (fp []) w1 [] ∧ forN (judge_good_l1 p0) (fun (s186 : Unit) => (.inl ())) n i187 s186 = some o112) (p0).length (fun a ha => ⟨0, (), Nat.zero_add _, ha.ag, hst.keep [] rfl, ho113⟩) ?_
  rintro n184 a w1 ⟨i187, s186, hi188, ha, hst, hl185⟩
  refine CW.go ?_ ha
  refine rg ?_
  refine pu 1 [(8, .bool (decide ((i187 : Int) < ((p0).length : Int))))] (nx (CW.seq ?_))
  rcases bft (decide ((i187 : Int) < ((p0).length : Int))) with hc189 | hc189
  ·rcases n184 with _ | n184
   ·exact (cnt0 hi188 hc189).elim
   refine CW.cond_t rfl hc189 (CW.skip (QW.next (CW.seq (CW.block (rg ?_)))))
   refine pu 1 [(9, I (i187 : Int))] ?_
   obtain ⟨x196, hx197, hl185⟩ := bs hl185
   obtain ⟨g199, o200, c201, hv198⟩ := h0.formv (fun _ => ⟨_, rfl⟩) hx197
   refine OW.idx 3 1 rfl rfl rfl rfl hv198 rfl (idx_some hx197).1 (idx_some hx197).2.1 (by kernel_rfl) (by kernel_rfl) ?_
   refine OW.ld rfl rfl rfl rfl (by kernel_rfl) (h0.cellv hst hx197 hv198 0 _ rfl) ?_
   refine pu 2 [(3, I (i187 : Int)), (4, I x196)] (nx (CW.seq ?_))
   obtain ⟨o211, ho212, hl185⟩ := bs hl185
   refine CW.cutK (fun a w1 => Rep 29 [(0, .slice a2 (p0).length c3), (5, .slice a2 (p0).length c3), (6, I ((p0).length : Int)), (7, I (i187 : Int)), (24, .bool o211)] a ∧ St w (fp []) w1 []) ?_ ?_
   ·refine CW.region ?_
    refine pu 3 [(14, .bool (decide (x196 < 0)))] ?_
    refine OW.split 14 rfl (fun hc213 => ?_) (fun hc213 => ?_)
    ·have ho212 := ite_t ho212 hc213
     refine pu 10 [(24, .bool true)] (OW.nil rfl ?_)
     obtain rfl := inj ho212
     exact QW.meet (fun a ha => ⟨ha.ag, hst.keep [] rfl⟩)
    have ho212 := ite_f ho212 hc213
    refine pu 4 [(18, .bool (decide (x196 ≥ 4)))] ?_
    refine OW.split 18 rfl (fun hc214 => ?_) (fun hc214 => ?_)
    ·have ho212 := ite_t ho212 hc214
     refine pu 6 [(24, .bool true)] (OW.nil rfl ?_)
     obtain rfl := inj ho212
     exact QW.meet (fun a ha => ⟨ha.ag, hst.keep [] rfl⟩)
    have ho212 := ite_f ho212 hc214
    refine pu 2 [(19, .slice a2 (p0).length c3), (20, I (i187 : Int))] ?_
    obtain ⟨ys215, hcut216, ho212⟩ := bs ho212
    refine OW.op (v := .slice a2 (ys215).length c3) rfl rfl rfl rfl (fun a ha => pre_run (e := 3) 1 rfl rfl rfl hcut216 h0.cap (by kernel_rfl) (by kernel_rfl) a _ ha) ?_
    have hp217 := h0.pre hcut216
    refine pu 1 [(22, I x196)] ?_
    obtain ⟨r218, hr219, ho212⟩ := bs ho212
    refine OW.fn rfl rfl rfl rfl (by kernel_rfl) (slices_Contains_int_int_ok _ (.slice a2 (ys215).length c3) ys215 x196 r218 hr219 (hst.part [] rfl) (hp217.give hst [])) ?_
    rintro e w220 ⟨rfl, hst221⟩
    refine ⟨_, rfl, ?_⟩
    have hst := hst.join (idx := []) (rest := []) rfl hst221
    refine pu 1 [(24, .bool r218)] (OW.nil rfl ?_)
    obtain rfl := inj ho212
    exact QW.meet (fun a ha => ⟨ha.ag, hst.keep [] rfl⟩)
   rintro a w1 ⟨ha, hst⟩
   refine CW.go ?_ ha
   refine br (o211) hl185 (fun hl185 hc222 => ?_) (fun hl185 hc222 => ?_)
   ·refine rg ?_
    refine pu 1 [(2, .bool false)] (nx (CW.ret (QW.block_ret (QW.then_ret (QW.then_ret (QW.block_ret (QW.then_ret ?_)))))))
    obtain rfl := inj hl185
    obtain rfl := inj hF
    refine QW.ret1 rfl rfl ?_
    exact ⟨rfl, hst.keep [] rfl⟩
   refine CW.skip (QW.block_normal (QW.next (CW.region ?_)))
   refine pu 2 [(7, I (w64 ((i187 : Int) + 1)))] (OW.nil rfl ?_)
   refine QW.say 7 rfl (congrArg (Value.int .i64) (w64_cnt hc189 l1)) ?_
   exact QW.meet (fun a ha => ⟨n184, Nat.lt_succ_self _, i187 + 1, (), cnt_next hi188, ha.ag, hst.keep [] rfl, hl185⟩)
  rcases n184 with _ | n184
  ·refine CW.cond_f rfl hc189 ?_
   refine CW.exit (QW.then_exit (QW.then_exit ?_))
   refine QW.block_here ?_
   obtain rfl := inj hl185
   exact QW.meet (fun a ha => ⟨(), rfl, ha.ag, hst.keep [] rfl⟩)
  exact (cnt1 hi188 hc189).elim
 rintro a w1 ⟨t114, rfl, ha, hst⟩
 refine CW.go ?_ ha
 refine rg ?_
 refine pu 4 [(2, .bool (decide (((p0).length : Int) ≤ 4)))] (nx (CW.ret ?_))
 obtain rfl := inj hF
 refine QW.ret1 rfl rfl ?_
 exact ⟨rfl, hst.keep [] rfl⟩
theorem ops_form_uses_ok (w : World) (p0 : ops_form) (p1 : Int) (r : Bool) (hF : ops_form_uses p0 p1 = some r)
    (hst : St w (fp []) w []) :
    Calls Tryz.prog 141 [.agg [.string p0.name, .string p0.fields].toArray, .int .u8 p1].toArray w (fun e w' => e = .returned (.bool r) ∧ St w (fp []) w' []) := by
 refine CW.start (N := 19) Tryz.func141 rfl rfl rfl (rg ?_)
 refine OW.box hst rfl rfl rfl rfl [.string p0.name, .string p0.fields] rfl ?_
 intro b3 w4 hst
 refine pu 1 [] (nx (CW.seq (rg ?_)))
 refine pu 1 [(6, .pointer (some ⟨b3, 1, none⟩))] ?_
 refine OW.ld rfl rfl rfl rfl (by kernel_rfl) (hst.blk 0 rfl rfl) ?_
 refine pu 2 [(8, I (p0.fields.size : Int)), (9, I 0)] (nx ?_)
 obtain ⟨o31, ho32, hF⟩ := bs hF
 refine CW.cutK (fun a w1 => ∃ (t33 : Unit), o31 = .inl t33 ∧ Rep 19 [] a ∧ St w (fp []) w1 []) ?_ ?_
 ·refine CW.block ?_
  obtain ⟨u52, hr53, ho32⟩ := bs ho32
  refine CW.loop (fun n a w1 => ∃ (i50 : Nat) (s49 : Unit), i50 + n = p0.fields.size ∧ Rep 19 [(1, .int .u8 p1), (2, Pt b3), (8, I (p0.fields.size : Int)), (9, I (i50 : Int))] a ∧ St w (fp []) w1 [blkI b3 220 [.string p0.name, .string p0.fields]] ∧ forN (ops_form_uses_l1 p0 p1) (fun (s49 : Unit) => (.inl ())) n i50 s49 = some o31) p0.fields.size (fun a ha => ⟨0, (), Nat.zero_add _, ha.ag, hst.keep [0] rfl, ho32⟩) ?_
  rintro n47 a w1 ⟨i50, s49, hi51, ha, hst, hl48⟩
  refine CW.go ?_ ha
  refine rg ?_
  refine pu 1 [(10, .bool (decide ((i50 : Int) < (p0.fields.size : Int))))] (nx (CW.seq ?_))
  rcases bft (decide ((i50 : Int) < (p0.fields.size : Int))) with hc54 | hc54
  ·rcases n47 with _ | n47
   ·exact (cnt0 hi51 hc54).elim
   refine CW.cond_t rfl hc54 (CW.skip (QW.next (CW.seq (CW.block (rg ?_)))))
   refine pu 2 [(5, I (i50 : Int))] (nx (rg ?_))
   refine pu 1 [(12, .pointer (some ⟨b3, 1, none⟩))] ?_
   refine OW.ld rfl rfl rfl rfl (by kernel_rfl) (hst.blk 0 rfl rfl) ?_
   refine pu 1 [(14, I (i50 : Int))] ?_
   obtain ⟨c57, hx58, hl48⟩ := bs hl48
   refine OW.op (v := .int .u8 c57) rfl rfl rfl rfl (fun a ha => sidx_run rfl rfl rfl (by kernel_rfl) hx58 a _ ha) ?_
   refine pu 2 [(17, .bool (c57 == p1))] (nx ?_)
   refine br ((c57 == p1)) hl48 (fun hl48 hc59 => ?_) (fun hl48 hc59 => ?_)
   ·refine rg ?_
    refine pu 1 [(4, .bool true)] (nx (CW.ret (QW.block_ret (QW.then_ret (QW.then_ret (QW.block_ret (QW.then_ret ?_)))))))
    obtain rfl := inj hl48
    obtain rfl := inj hF
    refine QW.ret1 rfl rfl ?_
    exact ⟨rfl, hst.keep [] rfl⟩
   refine CW.skip (QW.block_normal (QW.next (CW.region ?_)))
   refine pu 2 [(9, I (w64 ((i50 : Int) + 1)))] (OW.nil rfl ?_)
   refine QW.say 9 rfl (congrArg (Value.int .i64) (w64_cnt hc54 (room_sz hr53))) ?_
   exact QW.meet (fun a ha => ⟨n47, Nat.lt_succ_self _, i50 + 1, (), cnt_next hi51, ha.ag, hst.keep [0] rfl, hl48⟩)
  rcases n47 with _ | n47
  ·refine CW.cond_f rfl hc54 ?_
   refine CW.exit (QW.then_exit (QW.then_exit ?_))
   refine QW.block_here ?_
   obtain rfl := inj hl48
   exact QW.meet (fun a ha => ⟨(), rfl, ha.ag, hst.keep [] rfl⟩)
  exact (cnt1 hi51 hc54).elim
 rintro a w1 ⟨t33, rfl, ha, hst⟩
 refine CW.go ?_ ha
 refine rg ?_
 refine pu 1 [(4, .bool false)] (nx (CW.ret ?_))
 obtain rfl := inj hF
 refine QW.ret1 rfl rfl ?_
 exact ⟨rfl, hst.keep [] rfl⟩
theorem ops_Goes_ok (w : World) (p0 : api_Inst) (r : Int × Bool × Bool) (hF : ops_Goes p0 = some r)
    (hst : St w (fp []) w []) (hT0 : Rd w (fp []) (.slice (some ⟨0, 0, none⟩) 23 23) enc_ops_form 2 tab_g0) :
    Calls Tryz.prog 113 [.agg [I p0.Op, I p0.D, I p0.A, I p0.B, I p0.Imm].toArray].toArray w (fun e w' => e = .returned (.tuple #[I r.1, .bool r.2.1, .bool r.2.2]) ∧ St w (fp []) w' []) := by
 refine CW.start (N := 34) Tryz.func113 rfl rfl rfl (rg ?_)
 refine OW.box hst rfl rfl rfl rfl [I p0.Op, I p0.D, I p0.A, I p0.B, I p0.Imm] rfl ?_
 intro b3 w4 hst
 refine pu 3 [] (nx (CW.seq (rg ?_)))
 refine OW.ldN (cs := [I p0.Op, I p0.D, I p0.A, I p0.B, I p0.Imm]) rfl rfl rfl rfl (by kernel_rfl) (by kernel_rfl) (hst.blkN 0 rfl 0 5) ?_
 obtain ⟨r9, hr10, hF⟩ := bs hF
 refine OW.fn rfl rfl rfl rfl (by kernel_rfl) (ops_right_ok _ p0 r9 hr10 (hst.part [] rfl) (hT0.give hst [])) ?_
 rintro e w11 ⟨rfl, hst12⟩
 refine ⟨_, rfl, ?_⟩
 have hst := hst.join (idx := []) (rest := [0]) rfl hst12
 refine pu 1 [(9, .bool (!r9))] (nx ?_)
 refine br ((!r9)) hF (fun hF hc13 => ?_) (fun hF hc13 => ?_)
 ·refine rg ?_
  refine pu 3 [(2, I 0), (3, .bool false), (4, .bool false)] (nx (CW.ret (QW.then_ret ?_)))
  obtain rfl := inj hF
  refine QW.ret3 rfl rfl rfl rfl ?_
  exact ⟨rfl, hst.keep [] rfl⟩
 refine CW.skip (QW.next (rg ?_))
 refine pu 1 [(11, Pt b3)] ?_
 refine OW.ld rfl rfl rfl rfl (by kernel_rfl) (hst.blk 0 rfl rfl) ?_
 obtain ⟨r21, hr22, hF⟩ := bs hF
 refine OW.fn rfl rfl rfl rfl (by kernel_rfl) (ops_of_ok _ p0.Op r21 hr22 (hst.part [] rfl) (hT0.give hst [])) ?_
 rintro e w23 ⟨rfl, hst24⟩
 refine ⟨_, rfl, ?_⟩
 have hst := hst.join (idx := []) (rest := [0]) rfl hst24
 refine pu 3 [(14, .agg [.string r21.1.name, .string r21.1.fields].toArray), (15, .bool r21.2)] ?_
 refine OW.alloc hst rfl rfl rfl [.string ByteArray.empty, .string ByteArray.empty] (by kernel_rfl) ?_
 intro b25 w26 hst
 refine OW.stB hst 1 rfl rfl rfl rfl rfl (by kernel_rfl) rfl rfl [.string r21.1.name, .string r21.1.fields] rfl ?_
 intro w27 hst
 refine pu 1 [] (nx (CW.seq (CW.block (rg ?_))))
 refine OW.ldN (cs := [.string r21.1.name, .string r21.1.fields]) rfl rfl rfl rfl (by kernel_rfl) (by kernel_rfl) (hst.blkN 1 rfl 0 2) ?_
 obtain ⟨r32, hr33, hF⟩ := bs hF
 refine OW.fn rfl rfl rfl rfl (by kernel_rfl) (ops_form_uses_ok _ r21.1 106 r32 hr33 (hst.part [] rfl)) ?_
 rintro e w34 ⟨rfl, hst35⟩
 refine ⟨_, rfl, ?_⟩
 have hst := hst.join (idx := []) (rest := [0, 1]) rfl hst35
 refine pu 1 [(16, .bool r32)] (nx ?_)
 refine br (r32) hF (fun hF hc36 => ?_) (fun hF hc36 => ?_)
 ·refine CW.seq ?_
  refine CW.still (by kernel_rfl) (by kernel_rfl) ?_
  intro w39 hch40
  have hst := hst.same hch40
  refine OS.pure 1 [(19, .pointer (some ⟨b3, 1, none⟩))] rfl (by kernel_rfl) ?_
  refine OS.ld rfl rfl rfl rfl rfl (by kernel_rfl) (hst.blk 0 rfl rfl) ?_
  refine OS.pure 2 [(21, I (w64 (p0.D + 1))), (22, Pt b3)] rfl (by kernel_rfl) ?_
  refine OS.ld rfl rfl rfl rfl rfl (by kernel_rfl) (hst.blk 0 rfl rfl) ?_
  refine OS.pure 4 [(2, I (w64 (p0.D + 1))), (3, .bool true), (4, .bool (p0.Op != 15))] rfl (by kernel_rfl) ?_
  refine OS.fin rfl (QW.next (CW.ret (QW.block_ret (QW.then_ret ?_))))
  obtain rfl := inj hF
  refine QW.ret3 rfl rfl rfl rfl ?_
  exact ⟨rfl, hst.keep [] rfl⟩
 refine rg ?_
 refine OW.ldN (cs := [.string r21.1.name, .string r21.1.fields]) rfl rfl rfl rfl (by kernel_rfl) (by kernel_rfl) (hst.blkN 1 rfl 0 2) ?_
 obtain ⟨r45, hr46, hF⟩ := bs hF
 refine OW.fn rfl rfl rfl rfl (by kernel_rfl) (ops_form_uses_ok _ r21.1 98 r45 hr46 (hst.part [] rfl)) ?_
 rintro e w47 ⟨rfl, hst48⟩
 refine ⟨_, rfl, ?_⟩
 have hst := hst.join (idx := []) (rest := [0, 1]) rfl hst48
 refine pu 1 [(25, .bool r45)] (nx ?_)
 refine br (r45) hF (fun hF hc49 => ?_) (fun hF hc49 => ?_)
 ·refine rg ?_
  refine pu 1 [(28, .pointer (some ⟨b3, 1, none⟩))] ?_
  refine OW.ld rfl rfl rfl rfl (by kernel_rfl) (hst.blk 0 rfl rfl) ?_
  refine pu 4 [(2, I (w64 (0 - p0.D))), (3, .bool true), (4, .bool true)] (nx (CW.ret (QW.block_ret (QW.then_ret ?_))))
  obtain rfl := inj hF
  refine QW.ret3 rfl rfl rfl rfl ?_
  exact ⟨rfl, hst.keep [] rfl⟩
 refine CW.skip (QW.block_normal (QW.next (CW.seq ?_)))
 refine CW.still (by kernel_rfl) (by kernel_rfl) ?_
 intro w52 hch53
 have hst := hst.same hch53
 refine OS.pure 1 [(31, Pt b3)] rfl (by kernel_rfl) ?_
 refine OS.ld rfl rfl rfl rfl rfl (by kernel_rfl) (hst.blk 0 rfl rfl) ?_
 refine OS.pure 4 [(2, I 0), (3, .bool false), (4, .bool (p0.Op != 22))] rfl (by kernel_rfl) ?_
 refine OS.fin rfl (QW.next (CW.ret ?_))
 obtain rfl := inj hF
 refine QW.ret3 rfl rfl rfl rfl ?_
 exact ⟨rfl, hst.keep [] rfl⟩
theorem flow_places_ok (w : World) (v0 : Value) (p0 : List api_Inst) (r : Int × Int) (hF : flow_places p0 = some r)
    (hst : St w (fp []) w []) (h0 : Rd w (fp []) v0 enc_api_Inst 5 p0) (hT0 : Rd w (fp []) (.slice (some ⟨0, 0, none⟩) 23 23) enc_ops_form 2 tab_g0) :
    Calls Tryz.prog 96 [v0].toArray w (fun e w' => e = .returned (.tuple #[I r.1, I r.2]) ∧ St w (fp []) w' []) := by
 refine CW.start (N := 56) Tryz.func96 rfl rfl rfl ?_
 obtain ⟨l1, a2, c3, rfl⟩ := h0.len
 refine rg ?_
 refine pu 2 [] (nx (CW.seq (rg ?_)))
 refine pu 3 [(9, .slice a2 (p0).length c3), (10, I ((p0).length : Int)), (11, I 0)] (nx ?_)
 obtain ⟨o145, ho146, hF⟩ := bs hF
 refine CW.cutK (fun a w1 => ∃ (t147 : Unit), o145 = .inl t147 ∧ Rep 56 [] a ∧ St w (fp []) w1 []) ?_ ?_
 ·refine CW.block ?_
  refine CW.loop (fun n a w1 => ∃ (i242 : Nat) (s241 : Unit), i242 + n = (p0).length ∧ Rep 56 [(0, .slice a2 (p0).length c3), (9, .slice a2 (p0).length c3), (10, I ((p0).length : Int)), (11, I (i242 : Int))] a ∧ St w (fp []) w1 [] ∧ forN (flow_places_l1 p0) (fun (s241 : Unit) => (.inl ())) n i242 s241 = some o145) (p0).length (fun a ha => ⟨0, (), Nat.zero_add _, ha.ag, hst.keep [] rfl, ho146⟩) ?_
  rintro n239 a w1 ⟨i242, s241, hi243, ha, hst, hl240⟩
  refine CW.go ?_ ha
  refine rg ?_
  refine pu 1 [(12, .bool (decide ((i242 : Int) < ((p0).length : Int))))] (nx (CW.seq ?_))
  rcases bft (decide ((i242 : Int) < ((p0).length : Int))) with hc244 | hc244
  ·rcases n239 with _ | n239
   ·exact (cnt0 hi243 hc244).elim
   refine CW.cond_t rfl hc244 (CW.skip (QW.next (CW.seq (CW.block (rg ?_)))))
   refine pu 1 [(13, I (i242 : Int))] ?_
   obtain ⟨x254, hx255, hl240⟩ := bs hl240
   obtain ⟨g257, o258, c259, hv256⟩ := h0.formv (fun _ => ⟨_, rfl⟩) hx255
   refine OW.idx 42 5 rfl rfl rfl rfl hv256 rfl (idx_some hx255).1 (idx_some hx255).2.1 (by kernel_rfl) (by kernel_rfl) ?_
   refine OW.ldN (cs := enc_api_Inst x254) rfl rfl rfl rfl (by kernel_rfl) (by kernel_rfl) (h0.cellv hst hx255 hv256) ?_
   refine OW.alloc hst rfl rfl rfl [I 0, I 0, I 0, I 0, I 0] (by kernel_rfl) ?_
   intro b260 w261 hst
   refine pu 1 [(4, I (i242 : Int))] ?_
   refine OW.stB hst 0 rfl rfl rfl rfl rfl (by kernel_rfl) rfl rfl [I x254.Op, I x254.D, I x254.A, I x254.B, I x254.Imm] rfl ?_
   intro w262 hst
   refine nx (rg ?_)
   refine OW.ldN (cs := [I x254.Op, I x254.D, I x254.A, I x254.B, I x254.Imm]) rfl rfl rfl rfl (by kernel_rfl) (by kernel_rfl) (hst.blkN 0 rfl 0 5) ?_
   obtain ⟨r267, hr268, hl240⟩ := bs hl240
   refine OW.fn rfl rfl rfl rfl (by kernel_rfl) (ops_Goes_ok _ x254 r267 hr268 (hst.part [] rfl) (hT0.give hst [])) ?_
   rintro e w269 ⟨rfl, hst270⟩
   refine ⟨_, rfl, ?_⟩
   have hst := hst.join (idx := []) (rest := [0]) rfl hst270
   refine pu 7 [(6, I r267.1), (7, .bool r267.2.1), (8, .bool r267.2.2)] (nx (CW.block (rg ?_)))
   refine OW.ldN (cs := [I x254.Op, I x254.D, I x254.A, I x254.B, I x254.Imm]) rfl rfl rfl rfl (by kernel_rfl) (by kernel_rfl) (hst.blkN 0 rfl 0 5) ?_
   refine OW.row (α := api_Inst) (e := 42) (enc := enc_api_Inst) (sz := 5) hst rfl rfl rfl [x254] rfl (fun _ => rfl) rfl rfl (fun _ => by kernel_rfl) ?_
   intro g277 w278 hst
   obtain ⟨r279, hr280, hl240⟩ := bs hl240
   refine OW.fn rfl rfl rfl rfl (by kernel_rfl) (ops_Right_ok _ (.slice (some ⟨g277, 0, none⟩) 1 1) ([x254]) r279 hr280 (hst.part [] rfl) (hst.rd 1 rfl (fun _ => rfl) [] rfl (hst.len 1 rfl).1) (hT0.give hst [])) ?_
   rintro e w281 ⟨rfl, hst282⟩
   refine ⟨_, rfl, ?_⟩
   have hst := hst.join (idx := []) (rest := [0, 1]) rfl hst282
   refine pu 2 [(22, .bool (!r279))] (nx ?_)
   refine br ((!r279)) hl240 (fun hl240 hc283 => ?_) (fun hl240 hc283 => ?_)
   ·refine rg ?_
    refine pu 3 [(2, I (i242 : Int)), (3, I 12)] (nx (CW.ret (QW.block_ret (QW.block_ret (QW.then_ret (QW.then_ret (QW.block_ret (QW.then_ret ?_))))))))
    obtain rfl := inj hl240
    obtain rfl := inj hF
    refine QW.ret2 rfl rfl rfl ?_
    exact ⟨rfl, hst.keep [] rfl⟩
   refine CW.seq ?_
   refine CW.cutK (fun a w1 => Rep 56 [(0, .slice a2 (p0).length c3), (4, I (i242 : Int)), (8, .bool r267.2.2), (9, .slice a2 (p0).length c3), (10, I ((p0).length : Int)), (11, I (i242 : Int)), (28, .bool (r267.2.1 && (decide ((w64 ((i242 : Int) + r267.1)) < 0) || decide ((w64 ((i242 : Int) + r267.1)) ≥ ((p0).length : Int)))))] a ∧ St w (fp []) w1 []) ?_ ?_
   ·refine CW.region ?_
    refine pu 2 [(30, .bool r267.2.1)] ?_
    refine OW.split 30 rfl (fun hc284 => ?_) (fun hc284 => ?_)
    ·refine pu 5 [(35, .bool (decide ((w64 ((i242 : Int) + r267.1)) < 0)))] ?_
     refine OW.split 35 rfl (fun hc285 => ?_) (fun hc285 => ?_)
     ·refine pu 9 [(28, .bool true)] (OW.nil rfl ?_)
      refine QW.say 28 (v := .bool (r267.2.1 && (decide ((w64 ((i242 : Int) + r267.1)) < 0) || decide ((w64 ((i242 : Int) + r267.1)) ≥ ((p0).length : Int))))) rfl (by first | (rw [hc284, hc285]; done) | (rw [hc284, hc285]; rfl) | simp [hc284, hc285]) ?_
      exact QW.meet (fun a ha => ⟨ha.ag, hst.keep [] rfl⟩)
     refine pu 9 [(28, .bool (decide ((w64 ((i242 : Int) + r267.1)) ≥ ((p0).length : Int))))] (OW.nil rfl ?_)
     refine QW.say 28 (v := .bool (r267.2.1 && (decide ((w64 ((i242 : Int) + r267.1)) < 0) || decide ((w64 ((i242 : Int) + r267.1)) ≥ ((p0).length : Int))))) rfl (by first | (rw [hc284, hc285]; done) | (rw [hc284, hc285]; rfl) | simp [hc284, hc285]) ?_
     exact QW.meet (fun a ha => ⟨ha.ag, hst.keep [] rfl⟩)
    refine pu 14 [(28, .bool false)] (OW.nil rfl ?_)
    refine QW.say 28 (v := .bool (r267.2.1 && (decide ((w64 ((i242 : Int) + r267.1)) < 0) || decide ((w64 ((i242 : Int) + r267.1)) ≥ ((p0).length : Int))))) rfl (by first | (rw [hc284]; done) | (rw [hc284]; rfl) | simp [hc284]) ?_
    exact QW.meet (fun a ha => ⟨ha.ag, hst.keep [] rfl⟩)
   rintro a w1 ⟨ha, hst⟩
   refine CW.go ?_ ha
   refine br ((r267.2.1 && (decide ((w64 ((i242 : Int) + r267.1)) < 0) || decide ((w64 ((i242 : Int) + r267.1)) ≥ ((p0).length : Int))))) hl240 (fun hl240 hc286 => ?_) (fun hl240 hc286 => ?_)
   ·refine rg ?_
    refine pu 3 [(2, I (i242 : Int)), (3, I 30)] (nx (CW.ret (QW.block_ret (QW.block_ret (QW.then_ret (QW.then_ret (QW.block_ret (QW.then_ret ?_))))))))
    obtain rfl := inj hl240
    obtain rfl := inj hF
    refine QW.ret2 rfl rfl rfl ?_
    exact ⟨rfl, hst.keep [] rfl⟩
   refine CW.seq ?_
   refine CW.cutK (fun a w1 => Rep 56 [(0, .slice a2 (p0).length c3), (4, I (i242 : Int)), (9, .slice a2 (p0).length c3), (10, I ((p0).length : Int)), (11, I (i242 : Int)), (45, .bool (r267.2.2 && ((i242 : Int) == (w64 (((p0).length : Int) - 1)))))] a ∧ St w (fp []) w1 []) ?_ ?_
   ·refine CW.region ?_
    refine pu 2 [(47, .bool r267.2.2)] ?_
    refine OW.split 47 rfl (fun hc287 => ?_) (fun hc287 => ?_)
    ·refine pu 7 [(45, .bool ((i242 : Int) == (w64 (((p0).length : Int) - 1))))] (OW.nil rfl ?_)
     refine QW.say 45 (v := .bool (r267.2.2 && ((i242 : Int) == (w64 (((p0).length : Int) - 1))))) rfl (by first | (rw [hc287]; done) | (rw [hc287]; rfl) | simp [hc287]) ?_
     exact QW.meet (fun a ha => ⟨ha.ag, hst.keep [] rfl⟩)
    refine pu 7 [(45, .bool false)] (OW.nil rfl ?_)
    refine QW.say 45 (v := .bool (r267.2.2 && ((i242 : Int) == (w64 (((p0).length : Int) - 1))))) rfl (by first | (rw [hc287]; done) | (rw [hc287]; rfl) | simp [hc287]) ?_
    exact QW.meet (fun a ha => ⟨ha.ag, hst.keep [] rfl⟩)
   rintro a w1 ⟨ha, hst⟩
   refine CW.go ?_ ha
   refine br ((r267.2.2 && ((i242 : Int) == (w64 (((p0).length : Int) - 1))))) hl240 (fun hl240 hc288 => ?_) (fun hl240 hc288 => ?_)
   ·refine rg ?_
    refine pu 3 [(2, I (i242 : Int)), (3, I 36)] (nx (CW.ret (QW.block_ret (QW.block_ret (QW.then_ret (QW.then_ret (QW.block_ret (QW.then_ret ?_))))))))
    obtain rfl := inj hl240
    obtain rfl := inj hF
    refine QW.ret2 rfl rfl rfl ?_
    exact ⟨rfl, hst.keep [] rfl⟩
   refine CW.skip (QW.block_normal (QW.block_normal (QW.next (CW.region ?_))))
   refine pu 2 [(11, I (w64 ((i242 : Int) + 1)))] (OW.nil rfl ?_)
   refine QW.say 11 rfl (congrArg (Value.int .i64) (w64_cnt hc244 l1)) ?_
   exact QW.meet (fun a ha => ⟨n239, Nat.lt_succ_self _, i242 + 1, (), cnt_next hi243, ha.ag, hst.keep [] rfl, hl240⟩)
  rcases n239 with _ | n239
  ·refine CW.cond_f rfl hc244 ?_
   refine CW.exit (QW.then_exit (QW.then_exit ?_))
   refine QW.block_here ?_
   obtain rfl := inj hl240
   exact QW.meet (fun a ha => ⟨(), rfl, ha.ag, hst.keep [] rfl⟩)
  exact (cnt1 hi243 hc244).elim
 rintro a w1 ⟨t147, rfl, ha, hst⟩
 refine CW.go ?_ ha
 refine rg ?_
 refine pu 2 [(2, I 0), (3, I 0)] (nx (CW.ret ?_))
 obtain rfl := inj hF
 refine QW.ret2 rfl rfl rfl ?_
 exact ⟨rfl, hst.keep [] rfl⟩
theorem flow_loops_ok (w : World) (v0 : Value) (p0 : List api_Inst) (r : (List api_Loop)) (hF : flow_loops p0 = some r)
    (hst : St w (fp []) w []) (h0 : Rd w (fp []) v0 enc_api_Inst 5 p0) :
    Calls Tryz.prog 99 [v0].toArray w (fun e w' => ∃ (x0 : Value), e = .returned (x0) ∧ St w (fp []) w' [rowI x0 180 enc_api_Loop 3 r]) := by
 refine CW.start (N := 29) Tryz.func99 rfl rfl rfl ?_
 obtain ⟨l1, a2, c3, rfl⟩ := h0.len
 refine rg ?_
 refine pu 1 [] (nx (rg ?_))
 refine pu 1 [(3, .slice none 0 0)] (nx (CW.seq (rg ?_)))
 refine pu 3 [(6, .slice a2 (p0).length c3), (7, I ((p0).length : Int)), (8, I 0)] (nx ?_)
 obtain ⟨o139, ho140, hF⟩ := bs hF
 refine CW.cutK (fun a w1 => ∃ (v138 : Value), Rep 29 [(3, v138)] a ∧ St w (fp []) w1 [rowI v138 180 enc_api_Loop 3 o139]) ?_ ?_
 ·refine CW.block ?_
  have hst := hst.nilRow api_Loop 180 enc_api_Loop 3
  refine CW.loop (fun n a w1 => ∃ (i231 : Nat) (s229 : (List api_Loop)) (v230 : Value), i231 + n = (p0).length ∧ Rep 29 [(3, v230), (6, .slice a2 (p0).length c3), (7, I ((p0).length : Int)), (8, I (i231 : Int))] a ∧ St w (fp []) w1 [rowI v230 180 enc_api_Loop 3 s229] ∧ forN (flow_loops_l1 p0) (fun (s229 : (List api_Loop)) => s229) n i231 s229 = some o139) (p0).length (fun a ha => ⟨0, ([] : List api_Loop), (.slice none 0 0), Nat.zero_add _, ha.ag, hst.keep [0] rfl, ho140⟩) ?_
  rintro n227 a w1 ⟨i231, s229, v230, hi232, ha, hst, hl228⟩
  refine CW.go ?_ ha
  obtain ⟨l233, a234, c235, rfl⟩ := hst.len 0 rfl
  refine rg ?_
  refine pu 1 [(9, .bool (decide ((i231 : Int) < ((p0).length : Int))))] (nx (CW.seq ?_))
  rcases bft (decide ((i231 : Int) < ((p0).length : Int))) with hc236 | hc236
  ·rcases n227 with _ | n227
   ·exact (cnt0 hi232 hc236).elim
   refine CW.cond_t rfl hc236 (CW.skip (QW.next (CW.seq (CW.block (rg ?_)))))
   refine pu 1 [(10, I (i231 : Int))] ?_
   obtain ⟨x246, hx247, hl228⟩ := bs hl228
   obtain ⟨g249, o250, c251, hv248⟩ := h0.formv (fun _ => ⟨_, rfl⟩) hx247
   refine OW.idx 42 5 rfl rfl rfl rfl hv248 rfl (idx_some hx247).1 (idx_some hx247).2.1 (by kernel_rfl) (by kernel_rfl) ?_
   refine OW.ldN (cs := enc_api_Inst x246) rfl rfl rfl rfl (by kernel_rfl) (by kernel_rfl) (h0.cellv hst hx247 hv248) ?_
   refine OW.alloc hst rfl rfl rfl [I 0, I 0, I 0, I 0, I 0] (by kernel_rfl) ?_
   intro b252 w253 hst
   refine pu 1 [(4, I (i231 : Int))] ?_
   refine OW.stB hst 1 rfl rfl rfl rfl rfl (by kernel_rfl) rfl rfl [I x246.Op, I x246.D, I x246.A, I x246.B, I x246.Imm] rfl ?_
   intro w254 hst
   refine nx (rg ?_)
   refine pu 1 [(13, Pt b252)] ?_
   refine OW.ld rfl rfl rfl rfl (by kernel_rfl) (hst.blk 1 rfl rfl) ?_
   refine pu 1 [(15, .bool (x246.Op == 20))] (nx ?_)
   refine br ((x246.Op == 20)) hl228 (fun hl228 hc255 => ?_) (fun hl228 hc255 => ?_)
   ·refine CW.region ?_
    refine pu 3 [(16, .slice a234 (s229).length c235), (17, I (i231 : Int)), (18, .pointer (some ⟨b252, 1, none⟩))] ?_
    refine OW.ld rfl rfl rfl rfl (by kernel_rfl) (hst.blk 1 rfl rfl) ?_
    refine pu 3 [(20, I (w64 ((i231 : Int) - x246.D))), (21, I (i231 : Int)), (22, .pointer (some ⟨b252, 4, none⟩))] ?_
    refine OW.ld rfl rfl rfl rfl (by kernel_rfl) (hst.blk 1 rfl rfl) ?_
    refine pu 1 [(24, .agg [I (w64 ((i231 : Int) - x246.D)), I (i231 : Int), I x246.Imm].toArray)] ?_
    refine OW.row (α := api_Loop) (e := 180) (enc := enc_api_Loop) (sz := 3) hst rfl rfl rfl [(api_Loop.mk (w64 ((i231 : Int) - x246.D)) (i231 : Int) x246.Imm)] rfl (fun _ => rfl) rfl rfl (fun _ => by kernel_rfl) ?_
    intro g265 w266 hst
    obtain ⟨u267, hr268, hl228⟩ := bs hl228
    refine OW.app hst 0 rfl (fun _ => rfl) (fun _ => rfl) rfl rfl rfl rfl rfl rfl (by kernel_rfl) el180 (hst.rd 2 rfl (fun _ => rfl) [] rfl (hst.len 2 rfl).1) (room_le hr268) ?_
    intro v269 w270 hst
    obtain ⟨l271, a272, c273, rfl⟩ := hst.len 0 rfl
    refine pu 1 [(3, .slice a272 ((s229 ++ [(api_Loop.mk (w64 ((i231 : Int) - x246.D)) (i231 : Int) x246.Imm)])).length c273)] (OW.nil rfl (QW.block_normal (QW.next (CW.region ?_))))
    refine pu 2 [(8, I (w64 ((i231 : Int) + 1)))] (OW.nil rfl ?_)
    refine QW.say 8 rfl (congrArg (Value.int .i64) (w64_cnt hc236 l1)) ?_
    exact QW.meet (fun a ha => ⟨n227, Nat.lt_succ_self _, i231 + 1, (s229 ++ [(api_Loop.mk (w64 ((i231 : Int) - x246.D)) (i231 : Int) x246.Imm)]), (.slice a272 ((s229 ++ [(api_Loop.mk (w64 ((i231 : Int) - x246.D)) (i231 : Int) x246.Imm)])).length c273), cnt_next hi232, ha.ag, hst.keep [0] rfl, hl228⟩)
   refine CW.skip (QW.block_normal (QW.next (CW.region ?_)))
   refine pu 2 [(8, I (w64 ((i231 : Int) + 1)))] (OW.nil rfl ?_)
   refine QW.say 8 rfl (congrArg (Value.int .i64) (w64_cnt hc236 l1)) ?_
   exact QW.meet (fun a ha => ⟨n227, Nat.lt_succ_self _, i231 + 1, s229, (.slice a234 (s229).length c235), cnt_next hi232, ha.ag, hst.keep [0] rfl, hl228⟩)
  rcases n227 with _ | n227
  ·refine CW.cond_f rfl hc236 ?_
   refine CW.exit (QW.then_exit (QW.then_exit ?_))
   refine QW.block_here ?_
   obtain rfl := inj hl228
   exact QW.meet (fun a ha => ⟨(.slice a234 (s229).length c235), ha.ag, hst.keep [0] rfl⟩)
  exact (cnt1 hi232 hc236).elim
 rintro a w1 ⟨v138, ha, hst⟩
 refine CW.go ?_ ha
 obtain ⟨l277, a278, c279, rfl⟩ := hst.len 0 rfl
 refine rg ?_
 refine pu 2 [(2, .slice a278 (o139).length c279)] (nx (CW.ret ?_))
 obtain rfl := inj hF
 refine QW.ret1 rfl rfl ?_
 exact ⟨(.slice a278 (o139).length c279), rfl, hst.keep [0] rfl⟩
theorem flow_in_ok (w : World) (p0 : api_Loop) (p1 : Int) (r : Bool) (hF : flow_in p0 p1 = some r)
    (hst : St w (fp []) w []) :
    Calls Tryz.prog 140 [.agg [I p0.Head, I p0.At, I p0.Bound].toArray, I p1].toArray w (fun e w' => e = .returned (.bool r) ∧ St w (fp []) w' []) := by
 refine CW.start (N := 15) Tryz.func140 rfl rfl rfl (rg ?_)
 refine OW.box hst rfl rfl rfl rfl [I p0.Head, I p0.At, I p0.Bound] rfl ?_
 intro b3 w4 hst
 refine pu 1 [] (nx (CW.seq ?_))
 refine CW.cutK (fun a w1 => Rep 15 [(4, .bool (decide (p1 ≥ p0.Head) && decide (p1 ≤ p0.At)))] a ∧ St w (fp []) w1 []) ?_ ?_
 ·refine CW.region ?_
  refine pu 2 [(5, I p1), (6, Pt b3)] ?_
  refine OW.ld rfl rfl rfl rfl (by kernel_rfl) (hst.blk 0 rfl rfl) ?_
  refine pu 2 [(9, .bool (decide (p1 ≥ p0.Head)))] ?_
  refine OW.split 9 rfl (fun hc5 => ?_) (fun hc5 => ?_)
  ·refine pu 2 [(10, I p1), (11, .pointer (some ⟨b3, 1, none⟩))] ?_
   refine OW.ld rfl rfl rfl rfl (by kernel_rfl) (hst.blk 0 rfl rfl) ?_
   refine pu 3 [(4, .bool (decide (p1 ≤ p0.At)))] (OW.nil rfl ?_)
   refine QW.say 4 (v := .bool (decide (p1 ≥ p0.Head) && decide (p1 ≤ p0.At))) rfl (by first | (rw [hc5]; done) | (rw [hc5]; rfl) | simp [hc5]) ?_
   exact QW.meet (fun a ha => ⟨ha.ag, hst.keep [] rfl⟩)
  refine pu 6 [(4, .bool false)] (OW.nil rfl ?_)
  refine QW.say 4 (v := .bool (decide (p1 ≥ p0.Head) && decide (p1 ≤ p0.At))) rfl (by first | (rw [hc5]; done) | (rw [hc5]; rfl) | simp [hc5]) ?_
  exact QW.meet (fun a ha => ⟨ha.ag, hst.keep [] rfl⟩)
 rintro a w1 ⟨ha, hst⟩
 refine CW.go ?_ ha
 refine CW.ret ?_
 obtain rfl := inj hF
 refine QW.ret1 rfl rfl ?_
 exact ⟨rfl, hst.keep [] rfl⟩
theorem flow_nested_ok (w : World) (v0 : Value) (p0 : List api_Inst) (r : Int × Int) (hF : flow_nested p0 = some r)
    (hst : St w (fp []) w []) (h0 : Rd w (fp []) v0 enc_api_Inst 5 p0) (hT0 : Rd w (fp []) (.slice (some ⟨0, 0, none⟩) 23 23) enc_ops_form 2 tab_g0) :
    Calls Tryz.prog 97 [v0].toArray w (fun e w' => e = .returned (.tuple #[I r.1, I r.2]) ∧ St w (fp []) w' []) := by
 refine CW.start (N := 97) Tryz.func97 rfl rfl rfl ?_
 obtain ⟨l1, a2, c3, rfl⟩ := h0.len
 refine rg ?_
 refine pu 2 [] (nx (rg ?_))
 refine pu 1 [(16, .slice a2 (p0).length c3)] ?_
 obtain ⟨r12, hr13, hF⟩ := bs hF
 refine OW.fn rfl rfl rfl rfl (by kernel_rfl) (flow_loops_ok _ (.slice a2 (p0).length c3) p0 r12 hr13 (hst.part [] rfl) (h0.give hst [])) ?_
 rintro e w14 ⟨v16, rfl, hst15⟩
 refine ⟨_, rfl, ?_⟩
 have hst := hst.join (idx := []) (rest := []) rfl hst15
 obtain ⟨l17, a18, c19, rfl⟩ := hst.len 0 rfl
 refine pu 1 [(4, .slice a18 (r12).length c19)] (nx (CW.seq (rg ?_)))
 refine pu 3 [(18, .slice a18 (r12).length c19), (19, I ((r12).length : Int)), (20, I 0)] (nx ?_)
 obtain ⟨o590, ho591, hF⟩ := bs hF
 refine CW.cutK (fun a w1 => ∃ (t592 : Unit), o590 = .inl t592 ∧ Rep 97 [(0, .slice a2 (p0).length c3), (4, .slice a18 (r12).length c19)] a ∧ St w (fp []) w1 [rowI (.slice a18 (r12).length c19) 180 enc_api_Loop 3 r12]) ?_ ?_
 ·refine CW.block ?_
  refine CW.loop (fun n a w1 => ∃ (i973 : Nat) (s972 : Unit), i973 + n = (r12).length ∧ Rep 97 [(0, .slice a2 (p0).length c3), (4, .slice a18 (r12).length c19), (18, .slice a18 (r12).length c19), (19, I ((r12).length : Int)), (20, I (i973 : Int))] a ∧ St w (fp []) w1 [rowI (.slice a18 (r12).length c19) 180 enc_api_Loop 3 r12] ∧ forN (flow_nested_l1 r12) (fun (s972 : Unit) => (.inl ())) n i973 s972 = some o590) (r12).length (fun a ha => ⟨0, (), Nat.zero_add _, ha.ag, hst.keep [0] rfl, ho591⟩) ?_
  rintro n970 a w1 ⟨i973, s972, hi974, ha, hst, hl971⟩
  refine CW.go ?_ ha
  refine rg ?_
  refine pu 1 [(21, .bool (decide ((i973 : Int) < ((r12).length : Int))))] (nx (CW.seq ?_))
  rcases bft (decide ((i973 : Int) < ((r12).length : Int))) with hc975 | hc975
  ·rcases n970 with _ | n970
   ·exact (cnt0 hi974 hc975).elim
   refine CW.cond_t rfl hc975 (CW.skip (QW.next (CW.seq (CW.block (rg ?_)))))
   refine pu 1 [(22, I (i973 : Int))] ?_
   obtain ⟨x985, hx986, hl971⟩ := bs hl971
   obtain ⟨g988, o989, c990, hv987⟩ := hst.rowv 0 rfl hx986
   refine OW.idx 180 3 rfl rfl rfl rfl hv987 rfl (idx_some hx986).1 (idx_some hx986).2.1 (by kernel_rfl) (by kernel_rfl) ?_
   refine OW.ldN (cs := enc_api_Loop x985) rfl rfl rfl rfl (by kernel_rfl) (by kernel_rfl) (hst.rowc 0 rfl (fun _ => rfl) hx986 hv987) ?_
   refine OW.alloc hst rfl rfl rfl [I 0, I 0, I 0] (by kernel_rfl) ?_
   intro b991 w992 hst
   refine pu 1 [(5, I (i973 : Int))] ?_
   refine OW.stB hst 1 rfl rfl rfl rfl rfl (by kernel_rfl) rfl rfl [I x985.Head, I x985.At, I x985.Bound] rfl ?_
   intro w993 hst
   refine nx (rg ?_)
   refine pu 2 [(25, .slice a18 (r12).length c19), (26, I (i973 : Int))] ?_
   obtain ⟨ys996, hcut997, hl971⟩ := bs hl971
   refine OW.op (v := .slice a18 (ys996).length c19) rfl rfl rfl rfl (fun a ha => pre_run (e := 180) 3 rfl rfl rfl hcut997 (hst.cap 0 rfl) (by kernel_rfl) (by kernel_rfl) a _ ha) ?_
   refine pu 2 [(28, I ((ys996).length : Int)), (29, I 0)] (nx ?_)
   obtain ⟨o1079, ho1080, hl971⟩ := bs hl971
   refine CW.cutQ (fun a w1 => ∃ (t1081 : Unit), o1079 = .inl t1081 ∧ Rep 97 [(0, .slice a2 (p0).length c3), (4, .slice a18 (r12).length c19), (18, .slice a18 (r12).length c19), (19, I ((r12).length : Int)), (20, I (i973 : Int))] a ∧ St w (fp []) w1 [rowI (.slice a18 (r12).length c19) 180 enc_api_Loop 3 r12]) ?_ ?_
   ·refine CW.block ?_
    refine CW.loop (fun n a w1 => ∃ (i1136 : Nat) (s1135 : Unit), i1136 + n = (ys996).length ∧ Rep 97 [(0, .slice a2 (p0).length c3), (4, .slice a18 (r12).length c19), (6, Pt b991), (18, .slice a18 (r12).length c19), (19, I ((r12).length : Int)), (20, I (i973 : Int)), (27, .slice a18 (ys996).length c19), (28, I ((ys996).length : Int)), (29, I (i1136 : Int))] a ∧ St w (fp []) w1 [rowI (.slice a18 (r12).length c19) 180 enc_api_Loop 3 r12, blkI b991 180 [I x985.Head, I x985.At, I x985.Bound]] ∧ forN (flow_nested_l2 x985 ys996) (fun (s1135 : Unit) => (.inl ())) n i1136 s1135 = some o1079) (ys996).length (fun a ha => ⟨0, (), Nat.zero_add _, ha.ag, hst.keep [0, 1] rfl, ho1080⟩) ?_
    rintro n1133 a w1 ⟨i1136, s1135, hi1137, ha, hst, hl1134⟩
    refine CW.go ?_ ha
    refine rg ?_
    refine pu 1 [(30, .bool (decide ((i1136 : Int) < ((ys996).length : Int))))] (nx (CW.seq ?_))
    rcases bft (decide ((i1136 : Int) < ((ys996).length : Int))) with hc1138 | hc1138
    ·rcases n1133 with _ | n1133
     ·exact (cnt0 hi1137 hc1138).elim
     refine CW.cond_t rfl hc1138 (CW.skip (QW.next (CW.seq (CW.block (rg ?_)))))
     obtain ⟨x1150, hx1151, hl1134⟩ := bs hl1134
     have hx1156 := pre_idx hcut997 hx1151
     obtain ⟨g1153, o1154, c1155, hv1152⟩ := hst.rowv 0 rfl hx1156
     refine OW.idx 180 3 rfl rfl rfl rfl (pre_hv hv1152) rfl (idx_some hx1151).1 (idx_some hx1151).2.1 (by kernel_rfl) (by kernel_rfl) ?_
     refine OW.ldN (cs := enc_api_Loop x1150) rfl rfl rfl rfl (by kernel_rfl) (by kernel_rfl) (hst.rowc 0 rfl (fun _ => rfl) hx1156 hv1152) ?_
     refine OW.alloc hst rfl rfl rfl [I 0, I 0, I 0] (by kernel_rfl) ?_
     intro b1158 w1159 hst
     refine OW.stB hst 2 rfl rfl rfl rfl rfl (by kernel_rfl) rfl rfl [I x1150.Head, I x1150.At, I x1150.Bound] rfl ?_
     intro w1160 hst
     refine nx (CW.seq ?_)
     refine CW.cutK (fun a w1 => Rep 97 [(0, .slice a2 (p0).length c3), (4, .slice a18 (r12).length c19), (6, Pt b991), (18, .slice a18 (r12).length c19), (19, I ((r12).length : Int)), (20, I (i973 : Int)), (27, .slice a18 (ys996).length c19), (28, I ((ys996).length : Int)), (29, I (i1136 : Int)), (44, .bool (decide (x1150.At ≥ x985.Head) && decide (x1150.Head < x985.Head)))] a ∧ St w (fp []) w1 [rowI (.slice a18 (r12).length c19) 180 enc_api_Loop 3 r12, blkI b991 180 [I x985.Head, I x985.At, I x985.Bound]]) ?_ ?_
     ·refine CW.region ?_
      refine pu 1 [(33, .pointer (some ⟨b1158, 1, none⟩))] ?_
      refine OW.ld rfl rfl rfl rfl (by kernel_rfl) (hst.blk 2 rfl rfl) ?_
      refine pu 1 [(35, Pt b991)] ?_
      refine OW.ld rfl rfl rfl rfl (by kernel_rfl) (hst.blk 1 rfl rfl) ?_
      refine pu 2 [(38, .bool (decide (x1150.At ≥ x985.Head)))] ?_
      refine OW.split 38 rfl (fun hc1161 => ?_) (fun hc1161 => ?_)
      ·refine pu 1 [(39, Pt b1158)] ?_
       refine OW.ld rfl rfl rfl rfl (by kernel_rfl) (hst.blk 2 rfl rfl) ?_
       refine pu 1 [(41, Pt b991)] ?_
       refine OW.ld rfl rfl rfl rfl (by kernel_rfl) (hst.blk 1 rfl rfl) ?_
       refine pu 2 [(44, .bool (decide (x1150.Head < x985.Head)))] (OW.nil rfl ?_)
       refine QW.say 44 (v := .bool (decide (x1150.At ≥ x985.Head) && decide (x1150.Head < x985.Head))) rfl (by first | (rw [hc1161]; done) | (rw [hc1161]; rfl) | simp [hc1161]) ?_
       exact QW.meet (fun a ha => ⟨ha.ag, hst.keep [0, 1] rfl⟩)
      refine pu 6 [(44, .bool false)] (OW.nil rfl ?_)
      refine QW.say 44 (v := .bool (decide (x1150.At ≥ x985.Head) && decide (x1150.Head < x985.Head))) rfl (by first | (rw [hc1161]; done) | (rw [hc1161]; rfl) | simp [hc1161]) ?_
      exact QW.meet (fun a ha => ⟨ha.ag, hst.keep [0, 1] rfl⟩)
     rintro a w1 ⟨ha, hst⟩
     refine CW.go ?_ ha
     refine br ((decide (x1150.At ≥ x985.Head) && decide (x1150.Head < x985.Head))) hl1134 (fun hl1134 hc1162 => ?_) (fun hl1134 hc1162 => ?_)
     ·refine rg ?_
      refine pu 1 [(45, .pointer (some ⟨b991, 1, none⟩))] ?_
      refine OW.ld rfl rfl rfl rfl (by kernel_rfl) (hst.blk 1 rfl rfl) ?_
      refine pu 2 [(2, I x985.At), (3, I 31)] (nx (CW.ret (QW.block_ret (QW.then_ret (QW.then_ret (QW.block_ret (QW.then_ret (QW.block_ret (QW.then_ret (QW.then_ret (QW.block_ret (QW.then_ret ?_))))))))))))
      obtain rfl := inj hl1134
      obtain rfl := inj hl971
      obtain rfl := inj hF
      refine QW.ret2 rfl rfl rfl ?_
      exact ⟨rfl, hst.keep [] rfl⟩
     refine CW.skip (QW.block_normal (QW.next (CW.region ?_)))
     refine pu 2 [(29, I (w64 ((i1136 : Int) + 1)))] (OW.nil rfl ?_)
     refine QW.say 29 rfl (congrArg (Value.int .i64) (w64_cnt hc1138 (Nat.le_trans (cut_le hcut997) l17))) ?_
     exact QW.meet (fun a ha => ⟨n1133, Nat.lt_succ_self _, i1136 + 1, (), cnt_next hi1137, ha.ag, hst.keep [0, 1] rfl, hl1134⟩)
    rcases n1133 with _ | n1133
    ·refine CW.cond_f rfl hc1138 ?_
     refine CW.exit (QW.then_exit (QW.then_exit ?_))
     refine QW.block_here ?_
     obtain rfl := inj hl1134
     exact QW.meet (fun a ha => ⟨(), rfl, ha.ag, hst.keep [0] rfl⟩)
    exact (cnt1 hi1137 hc1138).elim
   rintro a w1 ⟨t1081, rfl, ha, hst⟩
   refine QW.go ?_ ha
   refine QW.block_normal (QW.next (CW.region ?_))
   refine pu 2 [(20, I (w64 ((i973 : Int) + 1)))] (OW.nil rfl ?_)
   refine QW.say 20 rfl (congrArg (Value.int .i64) (w64_cnt hc975 l17)) ?_
   exact QW.meet (fun a ha => ⟨n970, Nat.lt_succ_self _, i973 + 1, (), cnt_next hi974, ha.ag, hst.keep [0] rfl, hl971⟩)
  rcases n970 with _ | n970
  ·refine CW.cond_f rfl hc975 ?_
   refine CW.exit (QW.then_exit (QW.then_exit ?_))
   refine QW.block_here ?_
   obtain rfl := inj hl971
   exact QW.meet (fun a ha => ⟨(), rfl, ha.ag, hst.keep [0] rfl⟩)
  exact (cnt1 hi974 hc975).elim
 rintro a w1 ⟨t592, rfl, ha, hst⟩
 refine CW.go ?_ ha
 refine CW.seq (rg ?_)
 refine pu 3 [(49, .slice a2 (p0).length c3), (50, I ((p0).length : Int)), (51, I 0)] (nx ?_)
 obtain ⟨o2123, ho2124, hF⟩ := bs hF
 refine CW.cutK (fun a w1 => ∃ (t2125 : Unit), o2123 = .inl t2125 ∧ Rep 97 [] a ∧ St w (fp []) w1 []) ?_ ?_
 ·refine CW.block ?_
  refine CW.loop (fun n a w1 => ∃ (i2766 : Nat) (s2765 : Unit), i2766 + n = (p0).length ∧ Rep 97 [(4, .slice a18 (r12).length c19), (49, .slice a2 (p0).length c3), (50, I ((p0).length : Int)), (51, I (i2766 : Int))] a ∧ St w (fp []) w1 [rowI (.slice a18 (r12).length c19) 180 enc_api_Loop 3 r12] ∧ forN (flow_nested_l3 p0 r12) (fun (s2765 : Unit) => (.inl ())) n i2766 s2765 = some o2123) (p0).length (fun a ha => ⟨0, (), Nat.zero_add _, ha.ag, hst.keep [0] rfl, ho2124⟩) ?_
  rintro n2763 a w1 ⟨i2766, s2765, hi2767, ha, hst, hl2764⟩
  refine CW.go ?_ ha
  refine rg ?_
  refine pu 1 [(52, .bool (decide ((i2766 : Int) < ((p0).length : Int))))] (nx (CW.seq ?_))
  rcases bft (decide ((i2766 : Int) < ((p0).length : Int))) with hc2768 | hc2768
  ·rcases n2763 with _ | n2763
   ·exact (cnt0 hi2767 hc2768).elim
   refine CW.cond_t rfl hc2768 (CW.skip (QW.next (CW.seq (CW.block (rg ?_)))))
   refine pu 1 [(53, I (i2766 : Int))] ?_
   obtain ⟨x2778, hx2779, hl2764⟩ := bs hl2764
   obtain ⟨g2781, o2782, c2783, hv2780⟩ := h0.formv (fun _ => ⟨_, rfl⟩) hx2779
   refine OW.idx 42 5 rfl rfl rfl rfl hv2780 rfl (idx_some hx2779).1 (idx_some hx2779).2.1 (by kernel_rfl) (by kernel_rfl) ?_
   refine OW.ldN (cs := enc_api_Inst x2778) rfl rfl rfl rfl (by kernel_rfl) (by kernel_rfl) (h0.cellv hst hx2779 hv2780) ?_
   refine OW.alloc hst rfl rfl rfl [I 0, I 0, I 0, I 0, I 0] (by kernel_rfl) ?_
   intro b2784 w2785 hst
   refine pu 1 [(9, I (i2766 : Int))] ?_
   refine OW.stB hst 1 rfl rfl rfl rfl rfl (by kernel_rfl) rfl rfl [I x2778.Op, I x2778.D, I x2778.A, I x2778.B, I x2778.Imm] rfl ?_
   intro w2786 hst
   refine nx (rg ?_)
   refine OW.ldN (cs := [I x2778.Op, I x2778.D, I x2778.A, I x2778.B, I x2778.Imm]) rfl rfl rfl rfl (by kernel_rfl) (by kernel_rfl) (hst.blkN 1 rfl 0 5) ?_
   obtain ⟨r2791, hr2792, hl2764⟩ := bs hl2764
   refine OW.fn rfl rfl rfl rfl (by kernel_rfl) (ops_Goes_ok _ x2778 r2791 hr2792 (hst.part [] rfl) (hT0.give hst [])) ?_
   rintro e w2793 ⟨rfl, hst2794⟩
   refine ⟨_, rfl, ?_⟩
   have hst := hst.join (idx := []) (rest := [0, 1]) rfl hst2794
   refine pu 7 [(11, I r2791.1), (12, .bool r2791.2.1)] (nx (rg ?_))
   refine pu 3 [(62, .slice a18 (r12).length c19), (63, I ((r12).length : Int)), (64, I 0)] (nx ?_)
   obtain ⟨o2939, ho2940, hl2764⟩ := bs hl2764
   refine CW.cutQ (fun a w1 => ∃ (t2941 : Unit), o2939 = .inl t2941 ∧ Rep 97 [(4, .slice a18 (r12).length c19), (49, .slice a2 (p0).length c3), (50, I ((p0).length : Int)), (51, I (i2766 : Int))] a ∧ St w (fp []) w1 [rowI (.slice a18 (r12).length c19) 180 enc_api_Loop 3 r12]) ?_ ?_
   ·refine CW.block ?_
    refine CW.loop (fun n a w1 => ∃ (i3038 : Nat) (s3037 : Unit), i3038 + n = (r12).length ∧ Rep 97 [(4, .slice a18 (r12).length c19), (9, I (i2766 : Int)), (11, I r2791.1), (12, .bool r2791.2.1), (49, .slice a2 (p0).length c3), (50, I ((p0).length : Int)), (51, I (i2766 : Int)), (62, .slice a18 (r12).length c19), (63, I ((r12).length : Int)), (64, I (i3038 : Int))] a ∧ St w (fp []) w1 [rowI (.slice a18 (r12).length c19) 180 enc_api_Loop 3 r12] ∧ forN (flow_nested_l4 r12 i2766 r2791) (fun (s3037 : Unit) => (.inl ())) n i3038 s3037 = some o2939) (r12).length (fun a ha => ⟨0, (), Nat.zero_add _, ha.ag, hst.keep [0] rfl, ho2940⟩) ?_
    rintro n3035 a w1 ⟨i3038, s3037, hi3039, ha, hst, hl3036⟩
    refine CW.go ?_ ha
    refine rg ?_
    refine pu 1 [(65, .bool (decide ((i3038 : Int) < ((r12).length : Int))))] (nx (CW.seq ?_))
    rcases bft (decide ((i3038 : Int) < ((r12).length : Int))) with hc3040 | hc3040
    ·rcases n3035 with _ | n3035
     ·exact (cnt0 hi3039 hc3040).elim
     refine CW.cond_t rfl hc3040 (CW.skip (QW.next (CW.seq (CW.block (rg ?_)))))
     obtain ⟨x3050, hx3051, hl3036⟩ := bs hl3036
     obtain ⟨g3053, o3054, c3055, hv3052⟩ := hst.rowv 0 rfl hx3051
     refine OW.idx 180 3 rfl rfl rfl rfl hv3052 rfl (idx_some hx3051).1 (idx_some hx3051).2.1 (by kernel_rfl) (by kernel_rfl) ?_
     refine OW.ldN (cs := enc_api_Loop x3050) rfl rfl rfl rfl (by kernel_rfl) (by kernel_rfl) (hst.rowc 0 rfl (fun _ => rfl) hx3051 hv3052) ?_
     refine OW.alloc hst rfl rfl rfl [I 0, I 0, I 0] (by kernel_rfl) ?_
     intro b3056 w3057 hst
     refine OW.stB hst 1 rfl rfl rfl rfl rfl (by kernel_rfl) rfl rfl [I x3050.Head, I x3050.At, I x3050.Bound] rfl ?_
     intro w3058 hst
     refine nx (CW.seq ?_)
     obtain ⟨o3071, ho3072, hl3036⟩ := bs hl3036
     refine CW.cutK (fun a w1 => Rep 97 [(4, .slice a18 (r12).length c19), (9, I (i2766 : Int)), (11, I r2791.1), (12, .bool r2791.2.1), (49, .slice a2 (p0).length c3), (50, I ((p0).length : Int)), (51, I (i2766 : Int)), (62, .slice a18 (r12).length c19), (63, I ((r12).length : Int)), (64, I (i3038 : Int)), (93, .bool o3071)] a ∧ St w (fp []) w1 [rowI (.slice a18 (r12).length c19) 180 enc_api_Loop 3 r12]) ?_ ?_
     ·refine CW.region ?_
      refine pu 2 [(69, .bool r2791.2.1)] ?_
      refine OW.split 69 rfl (fun hc3073 => ?_) (fun hc3073 => ?_)
      ·have ho3072 := ite_t ho3072 hc3073
       refine pu 4 [(73, .bool (decide (r2791.1 > 0)))] ?_
       refine OW.split 73 rfl (fun hc3074 => ?_) (fun hc3074 => ?_)
       ·have ho3072 := ite_t ho3072 hc3074
        refine OW.ldN (cs := [I x3050.Head, I x3050.At, I x3050.Bound]) rfl rfl rfl rfl (by kernel_rfl) (by kernel_rfl) (hst.blkN 1 rfl 0 3) ?_
        refine pu 1 [(75, I (i2766 : Int))] ?_
        obtain ⟨r3075, hr3076, ho3072⟩ := bs ho3072
        refine OW.fn rfl rfl rfl rfl (by kernel_rfl) (flow_in_ok _ x3050 (i2766 : Int) r3075 hr3076 (hst.part [] rfl)) ?_
        rintro e w3077 ⟨rfl, hst3078⟩
        refine ⟨_, rfl, ?_⟩
        have hst := hst.join (idx := []) (rest := [0, 1]) rfl hst3078
        refine pu 3 [(79, .bool (!r3075))] ?_
        refine OW.split 79 rfl (fun hc3079 => ?_) (fun hc3079 => ?_)
        ·have ho3072 := ite_t ho3072 hc3079
         refine OW.ldN (cs := [I x3050.Head, I x3050.At, I x3050.Bound]) rfl rfl rfl rfl (by kernel_rfl) (by kernel_rfl) (hst.blkN 1 rfl 0 3) ?_
         refine pu 3 [(83, I (w64 ((i2766 : Int) + r2791.1)))] ?_
         obtain ⟨r3080, hr3081, ho3072⟩ := bs ho3072
         refine OW.fn rfl rfl rfl rfl (by kernel_rfl) (flow_in_ok _ x3050 (w64 ((i2766 : Int) + r2791.1)) r3080 hr3081 (hst.part [] rfl)) ?_
         rintro e w3082 ⟨rfl, hst3083⟩
         refine ⟨_, rfl, ?_⟩
         have hst := hst.join (idx := []) (rest := [0, 1]) rfl hst3083
         refine pu 2 [(86, .bool r3080)] ?_
         refine OW.split 86 rfl (fun hc3084 => ?_) (fun hc3084 => ?_)
         ·have ho3072 := ite_t ho3072 hc3084
          refine pu 4 [(89, I (w64 ((i2766 : Int) + r2791.1))), (90, Pt b3056)] ?_
          refine OW.ld rfl rfl rfl rfl (by kernel_rfl) (hst.blk 1 rfl rfl) ?_
          refine pu 2 [(93, .bool ((w64 ((i2766 : Int) + r2791.1)) != x3050.Head))] (OW.nil rfl ?_)
          obtain rfl := inj ho3072
          exact QW.meet (fun a ha => ⟨ha.ag, hst.keep [0] rfl⟩)
         have ho3072 := ite_f ho3072 hc3084
         refine pu 7 [(93, .bool false)] (OW.nil rfl ?_)
         obtain rfl := inj ho3072
         exact QW.meet (fun a ha => ⟨ha.ag, hst.keep [0] rfl⟩)
        have ho3072 := ite_f ho3072 hc3079
        refine pu 14 [(93, .bool false)] (OW.nil rfl ?_)
        obtain rfl := inj ho3072
        exact QW.meet (fun a ha => ⟨ha.ag, hst.keep [0] rfl⟩)
       have ho3072 := ite_f ho3072 hc3074
       refine pu 20 [(93, .bool false)] (OW.nil rfl ?_)
       obtain rfl := inj ho3072
       exact QW.meet (fun a ha => ⟨ha.ag, hst.keep [0] rfl⟩)
      have ho3072 := ite_f ho3072 hc3073
      refine pu 24 [(93, .bool false)] (OW.nil rfl ?_)
      obtain rfl := inj ho3072
      exact QW.meet (fun a ha => ⟨ha.ag, hst.keep [0] rfl⟩)
     rintro a w1 ⟨ha, hst⟩
     refine CW.go ?_ ha
     refine br (o3071) hl3036 (fun hl3036 hc3085 => ?_) (fun hl3036 hc3085 => ?_)
     ·refine rg ?_
      refine pu 3 [(2, I (i2766 : Int)), (3, I 31)] (nx (CW.ret (QW.block_ret (QW.then_ret (QW.then_ret (QW.block_ret (QW.then_ret (QW.block_ret (QW.then_ret (QW.then_ret (QW.block_ret (QW.then_ret ?_))))))))))))
      obtain rfl := inj hl3036
      obtain rfl := inj hl2764
      obtain rfl := inj hF
      refine QW.ret2 rfl rfl rfl ?_
      exact ⟨rfl, hst.keep [] rfl⟩
     refine CW.skip (QW.block_normal (QW.next (CW.region ?_)))
     refine pu 2 [(64, I (w64 ((i3038 : Int) + 1)))] (OW.nil rfl ?_)
     refine QW.say 64 rfl (congrArg (Value.int .i64) (w64_cnt hc3040 l17)) ?_
     exact QW.meet (fun a ha => ⟨n3035, Nat.lt_succ_self _, i3038 + 1, (), cnt_next hi3039, ha.ag, hst.keep [0] rfl, hl3036⟩)
    rcases n3035 with _ | n3035
    ·refine CW.cond_f rfl hc3040 ?_
     refine CW.exit (QW.then_exit (QW.then_exit ?_))
     refine QW.block_here ?_
     obtain rfl := inj hl3036
     exact QW.meet (fun a ha => ⟨(), rfl, ha.ag, hst.keep [0] rfl⟩)
    exact (cnt1 hi3039 hc3040).elim
   rintro a w1 ⟨t2941, rfl, ha, hst⟩
   refine QW.go ?_ ha
   refine QW.block_normal (QW.next (CW.region ?_))
   refine pu 2 [(51, I (w64 ((i2766 : Int) + 1)))] (OW.nil rfl ?_)
   refine QW.say 51 rfl (congrArg (Value.int .i64) (w64_cnt hc2768 l1)) ?_
   exact QW.meet (fun a ha => ⟨n2763, Nat.lt_succ_self _, i2766 + 1, (), cnt_next hi2767, ha.ag, hst.keep [0] rfl, hl2764⟩)
  rcases n2763 with _ | n2763
  ·refine CW.cond_f rfl hc2768 ?_
   refine CW.exit (QW.then_exit (QW.then_exit ?_))
   refine QW.block_here ?_
   obtain rfl := inj hl2764
   exact QW.meet (fun a ha => ⟨(), rfl, ha.ag, hst.keep [] rfl⟩)
  exact (cnt1 hi2767 hc2768).elim
 rintro a w1 ⟨t2125, rfl, ha, hst⟩
 refine CW.go ?_ ha
 refine rg ?_
 refine pu 2 [(2, I 0), (3, I 0)] (nx (CW.ret ?_))
 obtain rfl := inj hF
 refine QW.ret2 rfl rfl rfl ?_
 exact ⟨rfl, hst.keep [] rfl⟩
theorem flow_cost_ok (w : World) (v0 : Value) (p0 : List api_Inst) (r : Int) (hF : flow_cost p0 = some r)
    (hst : St w (fp []) w []) (h0 : Rd w (fp []) v0 enc_api_Inst 5 p0) :
    Calls Tryz.prog 98 [v0].toArray w (fun e w' => e = .returned (I r) ∧ St w (fp []) w' []) := by
 refine CW.start (N := 38) Tryz.func98 rfl rfl rfl ?_
 obtain ⟨l1, a2, c3, rfl⟩ := h0.len
 refine rg ?_
 refine pu 1 [] (nx (rg ?_))
 refine pu 1 [(9, .slice a2 (p0).length c3)] ?_
 obtain ⟨r12, hr13, hF⟩ := bs hF
 refine OW.fn rfl rfl rfl rfl (by kernel_rfl) (flow_loops_ok _ (.slice a2 (p0).length c3) p0 r12 hr13 (hst.part [] rfl) (h0.give hst [])) ?_
 rintro e w14 ⟨v16, rfl, hst15⟩
 refine ⟨_, rfl, ?_⟩
 have hst := hst.join (idx := []) (rest := []) rfl hst15
 obtain ⟨l17, a18, c19, rfl⟩ := hst.len 0 rfl
 refine pu 1 [(3, .slice a18 (r12).length c19)] (nx (rg ?_))
 refine pu 1 [(4, I 0)] (nx (CW.seq (rg ?_)))
 refine pu 3 [(12, I ((p0).length : Int)), (13, I 0)] (nx ?_)
 obtain ⟨o575, ho576, hF⟩ := bs hF
 refine CW.cutK (fun a w1 => Rep 38 [(4, I o575)] a ∧ St w (fp []) w1 []) ?_ ?_
 ·refine CW.block ?_
  refine CW.loop (fun n a w1 => ∃ (i947 : Nat) (s946 : Int), i947 + n = (p0).length ∧ Rep 38 [(3, .slice a18 (r12).length c19), (4, I s946), (12, I ((p0).length : Int)), (13, I (i947 : Int))] a ∧ St w (fp []) w1 [rowI (.slice a18 (r12).length c19) 180 enc_api_Loop 3 r12] ∧ forN (flow_cost_l1 r12) (fun (s946 : Int) => s946) n i947 s946 = some o575) (p0).length (fun a ha => ⟨0, 0, Nat.zero_add _, ha.ag, hst.keep [0] rfl, ho576⟩) ?_
  rintro n944 a w1 ⟨i947, s946, hi948, ha, hst, hl945⟩
  refine CW.go ?_ ha
  refine rg ?_
  refine pu 1 [(14, .bool (decide ((i947 : Int) < ((p0).length : Int))))] (nx (CW.seq ?_))
  rcases bft (decide ((i947 : Int) < ((p0).length : Int))) with hc949 | hc949
  ·rcases n944 with _ | n944
   ·exact (cnt0 hi948 hc949).elim
   refine CW.cond_t rfl hc949 (CW.skip (QW.next (CW.seq (CW.block (rg ?_)))))
   refine pu 2 [(5, I (i947 : Int))] (nx (rg ?_))
   refine pu 1 [(6, I 1)] (nx (CW.seq (rg ?_)))
   refine pu 3 [(16, .slice a18 (r12).length c19), (17, I ((r12).length : Int)), (18, I 0)] (nx ?_)
   obtain ⟨o1040, ho1041, hl945⟩ := bs hl945
   refine CW.cutK (fun a w1 => Rep 38 [(3, .slice a18 (r12).length c19), (4, I s946), (6, I o1040), (12, I ((p0).length : Int)), (13, I (i947 : Int))] a ∧ St w (fp []) w1 [rowI (.slice a18 (r12).length c19) 180 enc_api_Loop 3 r12]) ?_ ?_
   ·refine CW.block ?_
    refine CW.loop (fun n a w1 => ∃ (i1102 : Nat) (s1101 : Int), i1102 + n = (r12).length ∧ Rep 38 [(3, .slice a18 (r12).length c19), (4, I s946), (5, I (i947 : Int)), (6, I s1101), (12, I ((p0).length : Int)), (13, I (i947 : Int)), (16, .slice a18 (r12).length c19), (17, I ((r12).length : Int)), (18, I (i1102 : Int))] a ∧ St w (fp []) w1 [rowI (.slice a18 (r12).length c19) 180 enc_api_Loop 3 r12] ∧ forN (flow_cost_l2 r12 i947) (fun (s1101 : Int) => s1101) n i1102 s1101 = some o1040) (r12).length (fun a ha => ⟨0, 1, Nat.zero_add _, ha.ag, hst.keep [0] rfl, ho1041⟩) ?_
    rintro n1099 a w1 ⟨i1102, s1101, hi1103, ha, hst, hl1100⟩
    refine CW.go ?_ ha
    refine rg ?_
    refine pu 1 [(19, .bool (decide ((i1102 : Int) < ((r12).length : Int))))] (nx (CW.seq ?_))
    rcases bft (decide ((i1102 : Int) < ((r12).length : Int))) with hc1104 | hc1104
    ·rcases n1099 with _ | n1099
     ·exact (cnt0 hi1103 hc1104).elim
     refine CW.cond_t rfl hc1104 (CW.skip (QW.next (CW.seq (CW.block (rg ?_)))))
     obtain ⟨x1114, hx1115, hl1100⟩ := bs hl1100
     obtain ⟨g1117, o1118, c1119, hv1116⟩ := hst.rowv 0 rfl hx1115
     refine OW.idx 180 3 rfl rfl rfl rfl hv1116 rfl (idx_some hx1115).1 (idx_some hx1115).2.1 (by kernel_rfl) (by kernel_rfl) ?_
     refine OW.ldN (cs := enc_api_Loop x1114) rfl rfl rfl rfl (by kernel_rfl) (by kernel_rfl) (hst.rowc 0 rfl (fun _ => rfl) hx1115 hv1116) ?_
     refine OW.alloc hst rfl rfl rfl [I 0, I 0, I 0] (by kernel_rfl) ?_
     intro b1120 w1121 hst
     refine OW.stB hst 1 rfl rfl rfl rfl rfl (by kernel_rfl) rfl rfl [I x1114.Head, I x1114.At, I x1114.Bound] rfl ?_
     intro w1122 hst
     refine nx (rg ?_)
     refine OW.ldN (cs := [I x1114.Head, I x1114.At, I x1114.Bound]) rfl rfl rfl rfl (by kernel_rfl) (by kernel_rfl) (hst.blkN 1 rfl 0 3) ?_
     refine pu 1 [(23, I (i947 : Int))] ?_
     obtain ⟨r1127, hr1128, hl1100⟩ := bs hl1100
     refine OW.fn rfl rfl rfl rfl (by kernel_rfl) (flow_in_ok _ x1114 (i947 : Int) r1127 hr1128 (hst.part [] rfl)) ?_
     rintro e w1129 ⟨rfl, hst1130⟩
     refine ⟨_, rfl, ?_⟩
     have hst := hst.join (idx := []) (rest := [0, 1]) rfl hst1130
     refine nx ?_
     refine br (r1127) hl1100 (fun hl1100 hc1131 => ?_) (fun hl1100 hc1131 => ?_)
     ·refine CW.region ?_
      refine pu 2 [(25, I s1101), (26, .pointer (some ⟨b1120, 2, none⟩))] ?_
      refine OW.ld rfl rfl rfl rfl (by kernel_rfl) (hst.blk 1 rfl rfl) ?_
      refine pu 4 [(6, I (imin (w64 (s1101 * (w64 (x1114.Bound + 1)))) 257))] (OW.nil rfl (QW.block_normal (QW.next (CW.region ?_))))
      refine pu 2 [(18, I (w64 ((i1102 : Int) + 1)))] (OW.nil rfl ?_)
      refine QW.say 18 rfl (congrArg (Value.int .i64) (w64_cnt hc1104 l17)) ?_
      exact QW.meet (fun a ha => ⟨n1099, Nat.lt_succ_self _, i1102 + 1, (imin (w64 (s1101 * (w64 (x1114.Bound + 1)))) 257), cnt_next hi1103, ha.ag, hst.keep [0] rfl, hl1100⟩)
     refine CW.skip (QW.block_normal (QW.next (CW.region ?_)))
     refine pu 2 [(18, I (w64 ((i1102 : Int) + 1)))] (OW.nil rfl ?_)
     refine QW.say 18 rfl (congrArg (Value.int .i64) (w64_cnt hc1104 l17)) ?_
     exact QW.meet (fun a ha => ⟨n1099, Nat.lt_succ_self _, i1102 + 1, s1101, cnt_next hi1103, ha.ag, hst.keep [0] rfl, hl1100⟩)
    rcases n1099 with _ | n1099
    ·refine CW.cond_f rfl hc1104 ?_
     refine CW.exit (QW.then_exit (QW.then_exit ?_))
     refine QW.block_here ?_
     obtain rfl := inj hl1100
     exact QW.meet (fun a ha => ⟨ha.ag, hst.keep [0] rfl⟩)
    exact (cnt1 hi1103 hc1104).elim
   rintro a w1 ⟨ha, hst⟩
   refine CW.go ?_ ha
   refine CW.region ?_
   refine pu 5 [(4, I (imin (w64 (s946 + o1040)) 257))] (OW.nil rfl (QW.block_normal (QW.next (CW.region ?_))))
   refine pu 2 [(13, I (w64 ((i947 : Int) + 1)))] (OW.nil rfl ?_)
   refine QW.say 13 rfl (congrArg (Value.int .i64) (w64_cnt hc949 l1)) ?_
   exact QW.meet (fun a ha => ⟨n944, Nat.lt_succ_self _, i947 + 1, (imin (w64 (s946 + o1040)) 257), cnt_next hi948, ha.ag, hst.keep [0] rfl, hl945⟩)
  rcases n944 with _ | n944
  ·refine CW.cond_f rfl hc949 ?_
   refine CW.exit (QW.then_exit (QW.then_exit ?_))
   refine QW.block_here ?_
   obtain rfl := inj hl945
   exact QW.meet (fun a ha => ⟨ha.ag, hst.keep [] rfl⟩)
  exact (cnt1 hi948 hc949).elim
 rintro a w1 ⟨ha, hst⟩
 refine CW.go ?_ ha
 refine rg ?_
 refine pu 2 [(2, I o575)] (nx (CW.ret ?_))
 obtain rfl := inj hF
 refine QW.ret1 rfl rfl ?_
 exact ⟨rfl, hst.keep [] rfl⟩
theorem flow_Check_ok (w : World) (v0 : Value) (p0 : List api_Inst) (r : Int × Int) (hF : flow_Check p0 = some r)
    (hst : St w (fp []) w []) (h0 : Rd w (fp []) v0 enc_api_Inst 5 p0) (hT0 : Rd w (fp []) (.slice (some ⟨0, 0, none⟩) 23 23) enc_ops_form 2 tab_g0) :
    Calls Tryz.prog 75 [v0].toArray w (fun e w' => e = .returned (.tuple #[I r.1, I r.2]) ∧ St w (fp []) w' []) := by
 refine CW.start (N := 37) Tryz.func75 rfl rfl rfl ?_
 obtain ⟨l1, a2, c3, rfl⟩ := h0.len
 refine rg ?_
 refine pu 2 [] (nx (CW.seq (CW.block (rg ?_))))
 refine pu 4 [(8, .bool (((p0).length : Int) == 0))] (nx ?_)
 refine br ((((p0).length : Int) == 0)) hF (fun hF hc4 => ?_) (fun hF hc4 => ?_)
 ·refine rg ?_
  refine pu 2 [(2, I 0), (3, I 10)] (nx (CW.ret (QW.block_ret (QW.then_ret ?_))))
  obtain rfl := inj hF
  refine QW.ret2 rfl rfl rfl ?_
  exact ⟨rfl, hst.keep [] rfl⟩
 refine rg ?_
 refine pu 4 [(12, .bool (decide (((p0).length : Int) > 64)))] (nx ?_)
 refine br (decide (((p0).length : Int) > 64)) hF (fun hF hc5 => ?_) (fun hF hc5 => ?_)
 ·refine rg ?_
  refine pu 2 [(2, I 0), (3, I 11)] (nx (CW.ret (QW.block_ret (QW.then_ret ?_))))
  obtain rfl := inj hF
  refine QW.ret2 rfl rfl rfl ?_
  exact ⟨rfl, hst.keep [] rfl⟩
 refine CW.skip (QW.block_normal (QW.next (CW.seq (rg ?_))))
 refine pu 1 [(17, .slice a2 (p0).length c3)] ?_
 obtain ⟨r10, hr11, hF⟩ := bs hF
 refine OW.fn rfl rfl rfl rfl (by kernel_rfl) (flow_places_ok _ (.slice a2 (p0).length c3) p0 r10 hr11 (hst.part [] rfl) (h0.give hst []) (hT0.give hst [])) ?_
 rintro e w12 ⟨rfl, hst13⟩
 refine ⟨_, rfl, ?_⟩
 have hst := hst.join (idx := []) (rest := []) rfl hst13
 refine pu 5 [(4, I r10.1), (5, I r10.2)] (nx (rg ?_))
 refine pu 2 [(22, .bool (r10.2 != 0))] (nx ?_)
 refine br ((r10.2 != 0)) hF (fun hF hc14 => ?_) (fun hF hc14 => ?_)
 ·refine rg ?_
  refine pu 4 [(2, I r10.1), (3, I r10.2)] (nx (CW.ret (QW.then_ret ?_)))
  obtain rfl := inj hF
  refine QW.ret2 rfl rfl rfl ?_
  exact ⟨rfl, hst.keep [] rfl⟩
 refine CW.skip (QW.next (CW.seq (rg ?_)))
 refine pu 1 [(26, .slice a2 (p0).length c3)] ?_
 obtain ⟨r19, hr20, hF⟩ := bs hF
 refine OW.fn rfl rfl rfl rfl (by kernel_rfl) (flow_nested_ok _ (.slice a2 (p0).length c3) p0 r19 hr20 (hst.part [] rfl) (h0.give hst []) (hT0.give hst [])) ?_
 rintro e w21 ⟨rfl, hst22⟩
 refine ⟨_, rfl, ?_⟩
 have hst := hst.join (idx := []) (rest := []) rfl hst22
 refine pu 5 [(6, I r19.1), (7, I r19.2)] (nx (rg ?_))
 refine pu 2 [(31, .bool (r19.2 != 0))] (nx ?_)
 refine br ((r19.2 != 0)) hF (fun hF hc23 => ?_) (fun hF hc23 => ?_)
 ·refine rg ?_
  refine pu 4 [(2, I r19.1), (3, I r19.2)] (nx (CW.ret (QW.then_ret ?_)))
  obtain rfl := inj hF
  refine QW.ret2 rfl rfl rfl ?_
  exact ⟨rfl, hst.keep [] rfl⟩
 refine CW.skip (QW.next (CW.seq (rg ?_)))
 refine pu 1 [(34, .slice a2 (p0).length c3)] ?_
 obtain ⟨r28, hr29, hF⟩ := bs hF
 refine OW.fn rfl rfl rfl rfl (by kernel_rfl) (flow_cost_ok _ (.slice a2 (p0).length c3) p0 r28 hr29 (hst.part [] rfl) (h0.give hst [])) ?_
 rintro e w30 ⟨rfl, hst31⟩
 refine ⟨_, rfl, ?_⟩
 have hst := hst.join (idx := []) (rest := []) rfl hst31
 refine pu 1 [(36, .bool (decide (r28 > 256)))] (nx ?_)
 refine br (decide (r28 > 256)) hF (fun hF hc32 => ?_) (fun hF hc32 => ?_)
 ·refine rg ?_
  refine pu 2 [(2, I 0), (3, I 32)] (nx (CW.ret (QW.then_ret ?_)))
  obtain rfl := inj hF
  refine QW.ret2 rfl rfl rfl ?_
  exact ⟨rfl, hst.keep [] rfl⟩
 refine CW.skip (QW.next (rg ?_))
 refine pu 2 [(2, I 0), (3, I 0)] (nx (CW.ret ?_))
 obtain rfl := inj hF
 refine QW.ret2 rfl rfl rfl ?_
 exact ⟨rfl, hst.keep [] rfl⟩
theorem flow_Loops_ok (w : World) (v0 : Value) (p0 : List api_Inst) (r : (List api_Loop) × Int) (hF : flow_Loops p0 = some r)
    (hst : St w (fp []) w []) (h0 : Rd w (fp []) v0 enc_api_Inst 5 p0) (hT0 : Rd w (fp []) (.slice (some ⟨0, 0, none⟩) 23 23) enc_ops_form 2 tab_g0) :
    Calls Tryz.prog 76 [v0].toArray w (fun e w' => ∃ (x0 : Value), e = .returned (.tuple #[x0, I r.2]) ∧ St w (fp []) w' [rowI x0 180 enc_api_Loop 3 r.1]) := by
 refine CW.start (N := 16) Tryz.func76 rfl rfl rfl ?_
 obtain ⟨l1, a2, c3, rfl⟩ := h0.len
 refine rg ?_
 refine pu 2 [] (nx (CW.seq (rg ?_)))
 refine pu 1 [(7, .slice a2 (p0).length c3)] ?_
 obtain ⟨r8, hr9, hF⟩ := bs hF
 refine OW.fn rfl rfl rfl rfl (by kernel_rfl) (flow_Check_ok _ (.slice a2 (p0).length c3) p0 r8 hr9 (hst.part [] rfl) (h0.give hst []) (hT0.give hst [])) ?_
 rintro e w10 ⟨rfl, hst11⟩
 refine ⟨_, rfl, ?_⟩
 have hst := hst.join (idx := []) (rest := []) rfl hst11
 refine pu 5 [(5, I r8.2)] (nx (rg ?_))
 refine pu 2 [(12, .bool (r8.2 != 0))] (nx ?_)
 refine br ((r8.2 != 0)) hF (fun hF hc12 => ?_) (fun hF hc12 => ?_)
 ·refine rg ?_
  refine pu 3 [(2, .slice none 0 0), (3, I r8.2)] (nx (CW.ret (QW.then_ret ?_)))
  have hst := hst.nilRow api_Loop 180 enc_api_Loop 3
  obtain rfl := inj hF
  refine QW.ret2 rfl rfl rfl ?_
  exact ⟨(.slice none 0 0), rfl, hst.keep [0] rfl⟩
 refine CW.skip (QW.next (rg ?_))
 refine pu 1 [(14, .slice a2 (p0).length c3)] ?_
 obtain ⟨r21, hr22, hF⟩ := bs hF
 refine OW.fn rfl rfl rfl rfl (by kernel_rfl) (flow_loops_ok _ (.slice a2 (p0).length c3) p0 r21 hr22 (hst.part [] rfl) (h0.give hst [])) ?_
 rintro e w23 ⟨v25, rfl, hst24⟩
 refine ⟨_, rfl, ?_⟩
 have hst := hst.join (idx := []) (rest := []) rfl hst24
 obtain ⟨l26, a27, c28, rfl⟩ := hst.len 0 rfl
 refine pu 2 [(2, .slice a27 (r21).length c28), (3, I 0)] (nx (CW.ret ?_))
 obtain rfl := inj hF
 refine QW.ret2 rfl rfl rfl ?_
 exact ⟨(.slice a27 (r21).length c28), rfl, hst.keep [0] rfl⟩
end Go.Proofs.YtdnogiegiclcfaaGreatDoor

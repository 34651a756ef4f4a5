/- Written by a program (wip/gen): the walks: each Go function returns what its plain function computes. -/
import Derived.Test.YtpchniebplpboaaProg
import Derived.Test.YtpchniebplpboaaF1
import Derived.Test.YtpchniebplpboaaSq
import Derived.Test.YtpchniebplpboaaPart
import Derived.Test.YtpchniebplpboaaO1
set_option linter.unusedSimpArgs false
namespace Go.Proofs.Ytpchniebplpboaa
open Go.Sx
set_option linter.unusedVariables false
set_option maxRecDepth 10000
set_option maxHeartbeats 4000000
theorem el103 : Elem Try.prog 103 1 16 := Elem.of (i := Try.t103) (by kernel_rfl) (by kernel_rfl) (by kernel_rfl) (by kernel_rfl) (by kernel_rfl) (by decide) (by decide)
theorem el73 : Elem Try.prog 73 1 8 := Elem.of (i := Try.t73) (by kernel_rfl) (by kernel_rfl) (by kernel_rfl) (by kernel_rfl) (by kernel_rfl) (by decide) (by decide)
theorem el129 : Elem Try.prog 129 2 16 := Elem.of (i := Try.t129) (by kernel_rfl) (by kernel_rfl) (by kernel_rfl) (by kernel_rfl) (by kernel_rfl) (by decide) (by decide)
theorem el42 : Elem Try.prog 42 1 8 := Elem.of (i := Try.t42) (by kernel_rfl) (by kernel_rfl) (by kernel_rfl) (by kernel_rfl) (by kernel_rfl) (by decide) (by decide)
theorem el3 : Elem Try.prog 3 1 8 := Elem.of (i := Try.t3) (by kernel_rfl) (by kernel_rfl) (by kernel_rfl) (by kernel_rfl) (by kernel_rfl) (by decide) (by decide)
theorem el48 : Elem Try.prog 48 22 176 := Elem.of (i := Try.t48) (by kernel_rfl) (by kernel_rfl) (by kernel_rfl) (by kernel_rfl) (by kernel_rfl) (by decide) (by decide)
theorem el83 : Elem Try.prog 83 1 8 := Elem.of (i := Try.t83) (by kernel_rfl) (by kernel_rfl) (by kernel_rfl) (by kernel_rfl) (by kernel_rfl) (by decide) (by decide)
theorem el56 : Elem Try.prog 56 1 8 := Elem.of (i := Try.t56) (by kernel_rfl) (by kernel_rfl) (by kernel_rfl) (by kernel_rfl) (by kernel_rfl) (by decide) (by decide)
theorem lru_LRU_drop_1_ok (w : World) (p0 : Int) (c1 : Nat) (p1 : Int) (r : Bool) (hF : lru_LRU_drop_1 p0 p1 = some r)
    (hst : St w (fp []) w []) (hc1 : RdB w (fp []) c1 [U p1]) :
    Calls Try.prog 94 [U p0, Pt c1].toArray w (fun e w' => e = .returned (.bool r) ∧ St w (fp []) w' []) := by
 refine CW.start (N := 7) Try.func94 rfl rfl rfl (rg ?_)
 refine pu 1 [] (nx (rg ?_))
 refine pu 1 [(4, U p0)] ?_
 refine OW.ld rfl rfl rfl rfl (by kernel_rfl) (hc1.cell hst 0 rfl) ?_
 refine pu 2 [(3, .bool (p0 == p1))] (nx (CW.ret ?_))
 obtain rfl := inj hF
 refine QW.ret1 rfl rfl ?_
 exact ⟨rfl, hst.keep [] rfl⟩
theorem tappetlaw27_one_ok (w : World)  (r : api_Config) (hF : tappetlaw27_one  = some r)
    (hst : St w (fp []) w []) :
    Calls Try.prog 17 [].toArray w (fun e w' => ∃ (x0_0 : Value), e = .returned (.agg [I r.Workers, I r.Shards, I r.Hooks, I r.Ring, x0_0].toArray) ∧ St w (fp []) w' [rowI x0_0 61 enc_api_MapDef 2 r.Maps]) := by
 refine CW.start (N := 4) Try.func17 rfl rfl rfl (rg ?_)
 refine OW.alloc hst rfl rfl rfl [I 0, I 0, I 0, I 0, .slice none 0 0] (by kernel_rfl) ?_
 intro b3 w4 hst
 refine nx (rg ?_)
 refine pu 1 [(1, .agg [I 0, I 2].toArray)] ?_
 refine OW.row (α := api_MapDef) (e := 61) (enc := enc_api_MapDef) (sz := 2) hst rfl rfl rfl [(api_MapDef.mk 0 2)] rfl (fun _ => rfl) rfl rfl (fun _ => by kernel_rfl) ?_
 intro g8 w9 hst
 refine pu 1 [(3, .agg [I 0, I 1, I 0, I 1, .slice (some ⟨g8, 0, none⟩) 1 1].toArray)] ?_
 refine OW.stB hst 0 rfl rfl rfl rfl rfl (by kernel_rfl) rfl rfl [I 0, I 1, I 0, I 1, .slice (some ⟨g8, 0, none⟩) 1 1] rfl ?_
 intro w10 hst
 refine nx (CW.ret ?_)
 obtain rfl := inj hF
 refine QW.ret_c rfl rfl (run_loadN (cs := [I 0, I 1, I 0, I 1, .slice (some ⟨g8, 0, none⟩) 1 1]) (by kernel_rfl) (by kernel_rfl) (hst.blkN 0 rfl 0 5)) ?_
 exact ⟨(.slice (some ⟨g8, 0, none⟩) 1 1), rfl, hst.keep [1] rfl⟩
theorem book_New_ok (w : World) (p0 : Int) (r : (Option book_Book) × Int) (hF : book_New p0 = some r)
    (hst : St w (fp []) w []) :
    Calls Try.prog 38 [I p0].toArray w (fun e w' => (∃ (k0 : book_Book) (y0 : Value) (z0 : List Nat), r.1 = some k0 ∧ e = .returned (.tuple #[y0, I r.2]) ∧ St w (fp []) w' [itI R_t114 [y0] z0 k0]) ∨ (r.1 = none ∧ e = .returned (.tuple #[.pointer none, I r.2]) ∧ St w (fp []) w' [])) := by
 refine CW.start (N := 13) Try.func38 rfl rfl rfl (rg ?_)
 refine pu 2 [] (nx (CW.seq (CW.seq ?_)))
 refine CW.cutK (fun a w1 => Rep 13 [(0, I p0), (9, .bool (decide (p0 < 1) || decide (p0 > 16)))] a ∧ St w (fp []) w1 []) ?_ ?_
 ·refine CW.region ?_
  refine pu 3 [(6, .bool (decide (p0 < 1)))] ?_
  refine OW.split 6 rfl (fun hc1 => ?_) (fun hc1 => ?_)
  ·refine pu 3 [(9, .bool true)] (OW.nil rfl ?_)
   refine QW.say 9 (v := .bool (decide (p0 < 1) || decide (p0 > 16))) rfl (by first | (rw [hc1]; done) | (rw [hc1]; rfl) | simp [hc1]) ?_
   exact QW.meet (fun a ha => ⟨ha.ag, hst.keep [] rfl⟩)
  refine pu 3 [(9, .bool (decide (p0 > 16)))] (OW.nil rfl ?_)
  refine QW.say 9 (v := .bool (decide (p0 < 1) || decide (p0 > 16))) rfl (by first | (rw [hc1]; done) | (rw [hc1]; rfl) | simp [hc1]) ?_
  exact QW.meet (fun a ha => ⟨ha.ag, hst.keep [] rfl⟩)
 rintro a w1 ⟨ha, hst⟩
 refine CW.go ?_ ha
 refine br ((decide (p0 < 1) || decide (p0 > 16))) hF (fun hF hc2 => ?_) (fun hF hc2 => ?_)
 ·refine rg ?_
  refine pu 2 [(2, .pointer none), (3, I 2)] (nx (CW.ret (QW.then_ret ?_)))
  obtain rfl := inj hF
  refine QW.ret2 rfl rfl rfl ?_
  exact .inr ⟨rfl, rfl, hst.keep [] rfl⟩
 refine CW.skip (QW.next (rg ?_))
 refine pu 2 [(11, .agg [I p0, .slice none 0 0].toArray)] ?_
 refine OW.box hst rfl rfl rfl rfl [I p0, .slice none 0 0] rfl ?_
 intro b5 w6 hst
 refine pu 2 [(2, Pt b5), (3, I 0)] (nx (CW.ret ?_))
 have hst := hst.nilRow api_Pair 129 enc_api_Pair 2
 have hst := hst.toIt 1 rfl (fun _ => rfl) (by decide)
 obtain ⟨S7, hst⟩ := hst.shutP1 R_t131 rfl 0 1 [] rfl rfl rfl (book_Book.mk p0 ([] : List api_Pair)) rfl rfl
 obtain rfl := inj hF
 refine QW.ret2 rfl rfl rfl ?_
 exact .inl ⟨_, (Pt b5), S7, rfl, rfl, hst.keep [0] rfl⟩
theorem lru_New_ok (w : World) (p0 : Int) (r : (Option lru_LRU) × Int) (hF : lru_New p0 = some r)
    (hst : St w (fp []) w []) :
    Calls Try.prog 39 [I p0].toArray w (fun e w' => (∃ (k0 : lru_LRU) (y0 : Value) (z0 : List Nat), r.1 = some k0 ∧ e = .returned (.tuple #[y0, I r.2]) ∧ St w (fp []) w' [itI R_t117 [y0] z0 k0]) ∨ (r.1 = none ∧ e = .returned (.tuple #[.pointer none, I r.2]) ∧ St w (fp []) w' [])) := by
 refine CW.start (N := 17) Try.func39 rfl rfl rfl (rg ?_)
 refine pu 2 [] (nx (rg ?_))
 refine pu 1 [(7, I p0)] ?_
 obtain ⟨r11, hr12, hF⟩ := bs hF
 refine OW.fn rfl rfl rfl rfl (by kernel_rfl) (book_New_ok _ p0 r11 hr12 (hst.part [] rfl)) ?_
 rintro e w13 (⟨k15, v17, S18, he16, rfl, hst14⟩ | ⟨he19, rfl, hst14⟩)
 ·have hF := ocase_some hF he16
  refine ⟨_, rfl, ?_⟩
  have hst := hst.join (idx := []) (rest := []) rfl hst14
  obtain ⟨b20, rfl⟩ := hst.fptr 0 rfl
  refine pu 5 [(4, Pt b20), (5, I r11.2)] (nx (CW.seq (rg ?_)))
  refine pu 2 [(12, .bool (r11.2 != 0))] (nx ?_)
  refine br ((r11.2 != 0)) hF (fun hF hc21 => ?_) (fun hF hc21 => ?_)
  ·refine rg ?_
   refine pu 3 [(2, .pointer none), (3, I r11.2)] (nx (CW.ret (QW.then_ret ?_)))
   obtain rfl := inj hF
   refine QW.ret2 rfl rfl rfl ?_
   exact .inr ⟨rfl, rfl, hst.keep [] rfl⟩
  refine CW.skip (QW.next (rg ?_))
  refine pu 2 [(15, .agg [Pt b20, .slice none 0 0].toArray)] ?_
  refine OW.box hst rfl rfl rfl rfl [Pt b20, .slice none 0 0] rfl ?_
  intro b24 w25 hst
  refine pu 2 [(2, Pt b24), (3, I 0)] (nx (CW.ret ?_))
  have hst := hst.nilRow Int 42 (encInt .u64) 1
  have hst := hst.toIt 2 rfl (fun _ => rfl) (by decide)
  obtain ⟨S26, hst⟩ := hst.shutP2 R_t133 rfl 1 0 2 [] rfl rfl rfl rfl (lru_LRU.mk k15 ([] : List Int)) rfl rfl
  obtain rfl := inj hF
  refine QW.ret2 rfl rfl rfl ?_
  exact .inl ⟨_, (Pt b24), S26, rfl, rfl, hst.keep [0] rfl⟩
 have hF := ocase_none hF he19
 refine ⟨_, rfl, ?_⟩
 have hst := hst.join (idx := []) (rest := []) rfl hst14
 refine pu 5 [(4, .pointer none), (5, I r11.2)] (nx (CW.seq (rg ?_)))
 refine pu 2 [(12, .bool (r11.2 != 0))] (nx ?_)
 refine br ((r11.2 != 0)) hF (fun hF hc27 => ?_) (fun hF hc27 => ?_)
 ·refine rg ?_
  refine pu 3 [(2, .pointer none), (3, I r11.2)] (nx (CW.ret (QW.then_ret ?_)))
  obtain rfl := inj hF
  refine QW.ret2 rfl rfl rfl ?_
  exact .inr ⟨rfl, rfl, hst.keep [] rfl⟩
 refine CW.skip (QW.next (rg ?_))
 refine pu 2 [(15, .agg [.pointer none, .slice none 0 0].toArray)] ?_
 refine OW.box hst rfl rfl rfl rfl [.pointer none, .slice none 0 0] rfl ?_
 intro b30 w31 hst
 refine pu 2 [(2, Pt b30), (3, I 0)] (nx (CW.ret ?_))
 cases hF
theorem cmap_Make_ok (w : World) (p0 : api_MapDef) (r : (Option I_cmap_Shard) × Int) (hF : cmap_Make p0 = some r)
    (hst : St w (fp []) w []) :
    Calls Try.prog 33 [.agg [I p0.Kind, I p0.Cap].toArray].toArray w (fun e w' => (∃ (k0 : I_cmap_Shard) (y0 : Value) (z0 : List Nat), r.1 = some k0 ∧ e = .returned (.tuple #[y0, I r.2]) ∧ St w (fp []) w' [itI R_t103 [y0] z0 k0]) ∨ (r.1 = none ∧ e = .returned (.tuple #[.nilIface, I r.2]) ∧ St w (fp []) w' [])) := by
 refine CW.start (N := 36) Try.func33 rfl rfl rfl (rg ?_)
 refine OW.box hst rfl rfl rfl rfl [I p0.Kind, I p0.Cap] rfl ?_
 intro b3 w4 hst
 refine pu 2 [] (nx (CW.seq (rg ?_)))
 refine pu 1 [(8, Pt b3)] ?_
 refine OW.ld rfl rfl rfl rfl (by kernel_rfl) (hst.blk 0 rfl rfl) (nx (CW.block (rg ?_)))
 refine pu 2 [(10, .bool (p0.Kind == 0))] (nx ?_)
 refine br ((p0.Kind == 0)) hF (fun hF hc5 => ?_) (fun hF hc5 => ?_)
 ·refine rg ?_
  refine pu 1 [(13, .pointer (some ⟨b3, 1, none⟩))] ?_
  refine OW.ld rfl rfl rfl rfl (by kernel_rfl) (hst.blk 0 rfl rfl) ?_
  obtain ⟨r16, hr17, hF⟩ := bs hF
  refine OW.fn rfl rfl rfl rfl (by kernel_rfl) (book_New_ok _ p0.Cap r16 hr17 (hst.part [] rfl)) ?_
  rintro e w18 (⟨k20, v22, S23, he21, rfl, hst19⟩ | ⟨he24, rfl, hst19⟩)
  ·have hF := ocase_some hF he21
   refine ⟨_, rfl, ?_⟩
   have hst := hst.join (idx := []) (rest := [0]) rfl hst19
   obtain ⟨b25, rfl⟩ := hst.fptr 0 rfl
   refine pu 5 [(4, Pt b25), (5, I r16.2)] (nx (rg ?_))
   refine pu 2 [(19, .bool (r16.2 == 0))] (nx ?_)
   refine br ((r16.2 == 0)) hF (fun hF hc26 => ?_) (fun hF hc26 => ?_)
   ·refine rg ?_
    refine pu 1 [(20, Pt b25)] ?_
    have hst := hst.tag 114 0 rfl
    have hst := hst.ofL (tagP 117 R_t117) rfl rfl 0 rfl
    refine OW.op (v := .iface 114 (Pt b25)) rfl rfl rfl rfl (fun a ha => mkif_run rfl rfl (by kernel_rfl) a _ ha) ?_
    refine pu 3 [(2, .iface 114 (Pt b25)), (3, I r16.2)] (nx (CW.ret (QW.block_ret (QW.then_ret ?_))))
    obtain rfl := inj hF
    refine QW.ret2 rfl rfl rfl ?_
    exact .inl ⟨_, (.iface 114 (Pt b25)), S23, rfl, rfl, hst.keep [0] rfl⟩
   refine CW.skip (QW.block_normal (QW.next (rg ?_)))
   refine pu 2 [(2, .nilIface), (3, I 2)] (nx (CW.ret ?_))
   obtain rfl := inj hF
   refine QW.ret2 rfl rfl rfl ?_
   exact .inr ⟨rfl, rfl, hst.keep [] rfl⟩
  have hF := ocase_none hF he24
  refine ⟨_, rfl, ?_⟩
  have hst := hst.join (idx := []) (rest := [0]) rfl hst19
  refine pu 5 [(4, .pointer none), (5, I r16.2)] (nx (rg ?_))
  refine pu 2 [(19, .bool (r16.2 == 0))] (nx ?_)
  refine br ((r16.2 == 0)) hF (fun hF hc27 => ?_) (fun hF hc27 => ?_)
  ·refine rg ?_
   refine pu 1 [(20, .pointer none)] ?_
   cases hF
  refine CW.skip (QW.block_normal (QW.next (rg ?_)))
  refine pu 2 [(2, .nilIface), (3, I 2)] (nx (CW.ret ?_))
  obtain rfl := inj hF
  refine QW.ret2 rfl rfl rfl ?_
  exact .inr ⟨rfl, rfl, hst.keep [] rfl⟩
 refine rg ?_
 refine pu 2 [(23, .bool (p0.Kind == 1))] (nx ?_)
 refine br ((p0.Kind == 1)) hF (fun hF hc28 => ?_) (fun hF hc28 => ?_)
 ·refine rg ?_
  refine pu 1 [(26, .pointer (some ⟨b3, 1, none⟩))] ?_
  refine OW.ld rfl rfl rfl rfl (by kernel_rfl) (hst.blk 0 rfl rfl) ?_
  obtain ⟨r39, hr40, hF⟩ := bs hF
  refine OW.fn rfl rfl rfl rfl (by kernel_rfl) (lru_New_ok _ p0.Cap r39 hr40 (hst.part [] rfl)) ?_
  rintro e w41 (⟨k43, v45, S46, he44, rfl, hst42⟩ | ⟨he47, rfl, hst42⟩)
  ·have hF := ocase_some hF he44
   refine ⟨_, rfl, ?_⟩
   have hst := hst.join (idx := []) (rest := [0]) rfl hst42
   obtain ⟨b48, rfl⟩ := hst.fptr 0 rfl
   refine pu 5 [(6, Pt b48), (7, I r39.2)] (nx (rg ?_))
   refine pu 2 [(32, .bool (r39.2 == 0))] (nx ?_)
   refine br ((r39.2 == 0)) hF (fun hF hc49 => ?_) (fun hF hc49 => ?_)
   ·refine rg ?_
    refine pu 1 [(33, Pt b48)] ?_
    have hst := hst.tag 117 0 rfl
    have hst := hst.ofR (tagP 114 R_t114) rfl rfl 0 rfl
    refine OW.op (v := .iface 117 (Pt b48)) rfl rfl rfl rfl (fun a ha => mkif_run rfl rfl (by kernel_rfl) a _ ha) ?_
    refine pu 3 [(2, .iface 117 (Pt b48)), (3, I r39.2)] (nx (CW.ret (QW.block_ret (QW.then_ret ?_))))
    obtain rfl := inj hF
    refine QW.ret2 rfl rfl rfl ?_
    exact .inl ⟨_, (.iface 117 (Pt b48)), S46, rfl, rfl, hst.keep [0] rfl⟩
   refine CW.skip (QW.block_normal (QW.next (rg ?_)))
   refine pu 2 [(2, .nilIface), (3, I 2)] (nx (CW.ret ?_))
   obtain rfl := inj hF
   refine QW.ret2 rfl rfl rfl ?_
   exact .inr ⟨rfl, rfl, hst.keep [] rfl⟩
  have hF := ocase_none hF he47
  refine ⟨_, rfl, ?_⟩
  have hst := hst.join (idx := []) (rest := [0]) rfl hst42
  refine pu 5 [(6, .pointer none), (7, I r39.2)] (nx (rg ?_))
  refine pu 2 [(32, .bool (r39.2 == 0))] (nx ?_)
  refine br ((r39.2 == 0)) hF (fun hF hc50 => ?_) (fun hF hc50 => ?_)
  ·refine rg ?_
   refine pu 1 [(33, .pointer none)] ?_
   cases hF
  refine CW.skip (QW.block_normal (QW.next (rg ?_)))
  refine pu 2 [(2, .nilIface), (3, I 2)] (nx (CW.ret ?_))
  obtain rfl := inj hF
  refine QW.ret2 rfl rfl rfl ?_
  exact .inr ⟨rfl, rfl, hst.keep [] rfl⟩
 refine CW.skip (QW.block_normal (QW.next (rg ?_)))
 refine pu 2 [(2, .nilIface), (3, I 2)] (nx (CW.ret ?_))
 obtain rfl := inj hF
 refine QW.ret2 rfl rfl rfl ?_
 exact .inr ⟨rfl, rfl, hst.keep [] rfl⟩
theorem cmap_New_ok (w : World) (fu : Nat) (p0 : api_MapDef) (p1 : Int) (r : (Option cmap_Map) × Int) (hF : cmap_New fu p0 p1 = some r)
    (hst : St w (fp []) w []) :
    Calls Try.prog 28 [.agg [I p0.Kind, I p0.Cap].toArray, I p1].toArray w (fun e w' => (∃ (k0 : cmap_Map) (y0 : Value) (z0 : List Nat), r.1 = some k0 ∧ e = .returned (.tuple #[y0, I r.2]) ∧ St w (fp []) w' [itI R_t73 [y0] z0 k0]) ∨ (r.1 = none ∧ e = .returned (.tuple #[.pointer none, I r.2]) ∧ St w (fp []) w' [])) := by
 refine CW.start (N := 41) Try.func28 rfl rfl rfl (rg ?_)
 refine OW.box hst rfl rfl rfl rfl [I p0.Kind, I p0.Cap] rfl ?_
 intro b3 w4 hst
 refine pu 2 [] (nx (CW.seq (CW.seq ?_)))
 refine CW.cutK (fun a w1 => Rep 41 [(1, I p1), (2, Pt b3), (14, .bool (decide (p1 < 1) || decide (p1 > 4)))] a ∧ St w (fp []) w1 [blkI b3 61 [I p0.Kind, I p0.Cap]]) ?_ ?_
 ·refine CW.region ?_
  refine pu 3 [(11, .bool (decide (p1 < 1)))] ?_
  refine OW.split 11 rfl (fun hc5 => ?_) (fun hc5 => ?_)
  ·refine pu 3 [(14, .bool true)] (OW.nil rfl ?_)
   refine QW.say 14 (v := .bool (decide (p1 < 1) || decide (p1 > 4))) rfl (by first | (rw [hc5]; done) | (rw [hc5]; rfl) | simp [hc5]) ?_
   exact QW.meet (fun a ha => ⟨ha.ag, hst.keep [0] rfl⟩)
  refine pu 3 [(14, .bool (decide (p1 > 4)))] (OW.nil rfl ?_)
  refine QW.say 14 (v := .bool (decide (p1 < 1) || decide (p1 > 4))) rfl (by first | (rw [hc5]; done) | (rw [hc5]; rfl) | simp [hc5]) ?_
  exact QW.meet (fun a ha => ⟨ha.ag, hst.keep [0] rfl⟩)
 rintro a w1 ⟨ha, hst⟩
 refine CW.go ?_ ha
 refine br ((decide (p1 < 1) || decide (p1 > 4))) hF (fun hF hc6 => ?_) (fun hF hc6 => ?_)
 ·refine rg ?_
  refine pu 2 [(4, .pointer none), (5, I 2)] (nx (CW.ret (QW.then_ret ?_)))
  obtain rfl := inj hF
  refine QW.ret2 rfl rfl rfl ?_
  exact .inr ⟨rfl, rfl, hst.keep [] rfl⟩
 refine CW.skip (QW.next (rg ?_))
 refine OW.ldN (cs := [I p0.Kind, I p0.Cap]) rfl rfl rfl rfl (by kernel_rfl) (by kernel_rfl) (hst.blkN 0 rfl 0 2) ?_
 refine pu 1 [(16, .agg [I p0.Kind, I p0.Cap, .slice none 0 0].toArray)] ?_
 refine OW.box hst rfl rfl rfl rfl [I p0.Kind, I p0.Cap, .slice none 0 0] rfl ?_
 intro b9 w10 hst
 refine pu 1 [(6, Pt b9)] (nx (CW.seq (rg ?_)))
 refine pu 2 [(18, I p1), (19, I 0)] (nx ?_)
 obtain ⟨o200, ho201, hF⟩ := bs hF
 refine CW.cutK (fun a w1 => ∃ (t202 : cmap_Map) (S199 : List Nat), o200 = .inl t202 ∧ Rep 41 [(6, Pt b9)] a ∧ St w (fp []) w1 [itI R_t73 [Pt b9] S199 t202]) ?_ ?_
 ·refine CW.block ?_
  have hst := hst.nNil 103 R_t103 none
  have hst := hst.ofN 2 rfl (by decide)
  obtain ⟨S203, hst⟩ := hst.shutP1 R_t101 rfl 1 2 [0] rfl rfl rfl (cmap_Map.mk p0 ([] : List I_cmap_Shard)) rfl rfl
  refine CW.loop (fun n a w1 => ∃ (s329 : cmap_Map × Int) (S330 : List Nat), Rep 41 [(2, Pt b3), (6, Pt b9), (18, I p1), (19, I s329.2)] a ∧ St w (fp []) w1 [blkI b3 61 [I p0.Kind, I p0.Cap], itI R_t73 [Pt b9] S330 s329.1] ∧ loop (cmap_New_l1 p0 p1) n s329 = some o200) fu (fun a ha => ⟨((cmap_Map.mk p0 ([] : List I_cmap_Shard)), 0), S203, ha.ag, hst.keep [0, 1] rfl, ho201⟩) ?_
  rintro n327 a w1 ⟨s329, S330, ha, hst, hl328⟩
  rcases n327 with _ | n327
  ·exact (loop_zero hl328).elim
  refine CW.go ?_ ha
  refine rg ?_
  refine pu 1 [(20, .bool (decide (s329.2 < p1)))] (nx (CW.seq ?_))
  refine br (decide (s329.2 < p1)) hl328 (fun hl328 hc331 => ?_) (fun hl328 hc331 => ?_)
  ·refine CW.skip (QW.next (CW.seq (CW.block (rg ?_))))
   refine OW.ldN (cs := [I p0.Kind, I p0.Cap]) rfl rfl rfl rfl (by kernel_rfl) (by kernel_rfl) (hst.blkN 0 rfl 0 2) ?_
   obtain ⟨r341, hr342, hl328⟩ := bs hl328
   refine OW.fn rfl rfl rfl rfl (by kernel_rfl) (cmap_Make_ok _ p0 r341 hr342 (hst.part [] rfl)) ?_
   rintro e w343 (⟨k345, v347, S348, he346, rfl, hst344⟩ | ⟨he349, rfl, hst344⟩)
   ·have hl328 := ocase_some hl328 he346
    refine ⟨_, rfl, ?_⟩
    have hst := hst.join (idx := []) (rest := [0, 1]) rfl hst344
    refine pu 5 [(7, v347), (8, I r341.2)] (nx (CW.seq (rg ?_)))
    refine pu 2 [(27, .bool (r341.2 != 0))] (nx ?_)
    refine br ((r341.2 != 0)) hl328 (fun hl328 hc350 => ?_) (fun hl328 hc350 => ?_)
    ·refine rg ?_
     refine pu 3 [(4, .pointer none), (5, I r341.2)] (nx (CW.ret (QW.then_ret (QW.block_ret (QW.then_ret (QW.then_ret (QW.block_ret (QW.then_ret ?_))))))))
     obtain rfl := inj hl328
     obtain rfl := inj hF
     refine QW.ret2 rfl rfl rfl ?_
     exact .inr ⟨rfl, rfl, hst.keep [] rfl⟩
    refine CW.skip (QW.next ?_)
    obtain ⟨v351, S352, hst⟩ := hst.openQ1 2 rfl rfl
    have hst := hst.toN1 3 rfl
    obtain ⟨l353, a354, c355, rfl⟩ := hst.nlen 3 rfl
    have hst : St _ _ _ [_, _, blkI b9 101 [I s329.1.def_.Kind, I s329.1.def_.Cap, .slice a354 (s329.1.shards).length c355], _] := hst
    refine CW.region ?_
    refine pu 4 [(29, Pt b9), (32, .pointer (some ⟨b9, 2, none⟩))] ?_
    refine OW.ld rfl rfl rfl rfl (by kernel_rfl) (hst.blk 2 rfl rfl) ?_
    refine pu 1 [(34, v347)] ?_
    obtain ⟨T370, u371, rfl⟩ := hst.ifcell 0 rfl (fun _ _ _ _ h => ifc_sum (fun _ _ _ _ h => ifc_tag h) (fun _ _ _ _ h => ifc_tag h) h)
    refine OW.row (α := List Value) (e := 103) (enc := fit 1) (sz := 1) hst rfl rfl rfl [[(.iface T370 u371)]] rfl (fun _ => fit_len _ _) rfl rfl (fun _ => by kernel_rfl) ?_
    intro g372 w373 hst
    have hst := hst.bchOne (R := R_t103) 0 rfl
    have hst := hst.keep [1, 2, 3, 0, 4] rfl
    have hst : St _ _ _ [_, _, _, bchI R_t103 [[(.iface T370 u371)]] _ [k345], _] := hst
    obtain ⟨S374, hst⟩ := hst.nOf 4 3 rfl rfl rfl rfl
    have hst := hst.keep [0, 1, 2, 4] rfl
    have hst : St _ _ _ [_, _, _, nI 103 R_t103 (.slice (some ⟨g372, 0, none⟩) 1 1) S374 ([k345]) none] := hst
    obtain ⟨u375, hr376, hl328⟩ := bs hl328
    refine OW.appN hst 2 3 rfl rfl rfl rfl rfl rfl rfl rfl rfl (by kernel_rfl) el103 (room_le hr376) (fun _ _ _ _ h => ones_sum (fun _ _ _ _ h => ones_tag h) (fun _ _ _ _ h => ones_tag h) h) ?_
    intro v377 S378 w379 hst
    have hst := hst.keep [0, 1, 2] rfl
    obtain ⟨l380, a381, c382, rfl⟩ := hst.nlen 2 rfl
    refine pu 2 [(38, .pointer (some ⟨b9, 2, none⟩))] ?_
    refine OW.stB hst 1 rfl rfl rfl rfl rfl (by kernel_rfl) rfl rfl [I s329.1.def_.Kind, I s329.1.def_.Cap, .slice a381 ((s329.1.shards ++ [k345])).length c382] rfl ?_
    intro w383 hst
    refine OW.nil rfl (QW.block_normal (QW.next (CW.region ?_)))
    refine pu 2 [(19, I (w64 (s329.2 + 1)))] (OW.nil rfl ?_)
    have hst := hst.ofN 2 rfl (by decide)
    obtain ⟨S384, hst⟩ := hst.shutP1 R_t101 rfl 1 2 [0] rfl rfl rfl (cmap_Map.mk s329.1.def_ (s329.1.shards ++ [k345])) rfl rfl
    exact QW.meet (fun a ha => ⟨n327, Nat.lt_succ_self _, ((cmap_Map.mk s329.1.def_ (s329.1.shards ++ [k345])), w64 (s329.2 + 1)), S384, ha.ag, hst.keep [0, 1] rfl, hl328⟩)
   have hl328 := ocase_none hl328 he349
   refine ⟨_, rfl, ?_⟩
   have hst := hst.join (idx := []) (rest := [0, 1]) rfl hst344
   refine pu 5 [(7, .nilIface), (8, I r341.2)] (nx (CW.seq (rg ?_)))
   refine pu 2 [(27, .bool (r341.2 != 0))] (nx ?_)
   refine br ((r341.2 != 0)) hl328 (fun hl328 hc385 => ?_) (fun hl328 hc385 => ?_)
   ·refine rg ?_
    refine pu 3 [(4, .pointer none), (5, I r341.2)] (nx (CW.ret (QW.then_ret (QW.block_ret (QW.then_ret (QW.then_ret (QW.block_ret (QW.then_ret ?_))))))))
    obtain rfl := inj hl328
    obtain rfl := inj hF
    refine QW.ret2 rfl rfl rfl ?_
    exact .inr ⟨rfl, rfl, hst.keep [] rfl⟩
   refine CW.skip (QW.next ?_)
   obtain ⟨v386, S387, hst⟩ := hst.openQ1 1 rfl rfl
   have hst := hst.toN1 2 rfl
   obtain ⟨l388, a389, c390, rfl⟩ := hst.nlen 2 rfl
   have hst : St _ _ _ [_, blkI b9 101 [I s329.1.def_.Kind, I s329.1.def_.Cap, .slice a389 (s329.1.shards).length c390], _] := hst
   refine CW.region ?_
   refine pu 4 [(29, Pt b9), (32, .pointer (some ⟨b9, 2, none⟩))] ?_
   refine OW.ld rfl rfl rfl rfl (by kernel_rfl) (hst.blk 1 rfl rfl) ?_
   refine pu 1 [(34, .nilIface)] ?_
   cases hl328
  refine CW.exit (QW.then_exit (QW.then_exit ?_))
  refine QW.block_here ?_
  obtain rfl := inj hl328
  exact QW.meet (fun a ha => ⟨s329.1, S330, rfl, ha.ag, hst.keep [1] rfl⟩)
 rintro a w1 ⟨t202, S199, rfl, ha, hst⟩
 refine CW.go ?_ ha
 refine rg ?_
 refine pu 3 [(4, Pt b9), (5, I 0)] (nx (CW.ret ?_))
 obtain rfl := inj hF
 refine QW.ret2 rfl rfl rfl ?_
 exact .inl ⟨_, (Pt b9), S199, rfl, rfl, hst.keep [0] rfl⟩
theorem audit_newMaps_ok (w : World) (fu : Nat) (v0_0 : Value) (p0 : api_Config) (r : (List cmap_Map) × Int) (hF : audit_newMaps fu p0 = some r)
    (hst : St w (fp []) w []) (h0_0 : Rd w (fp []) v0_0 enc_api_MapDef 2 p0.Maps) :
    Calls Try.prog 18 [.agg [I p0.Workers, I p0.Shards, I p0.Hooks, I p0.Ring, v0_0].toArray].toArray w (fun e w' => ∃ (x0 : Value) (Sx0 : List Nat), e = .returned (.tuple #[x0, I r.2]) ∧ St w (fp []) w' [nI 73 R_t73 x0 Sx0 r.1 none]) := by
 refine CW.start (N := 46) Try.func18 rfl rfl rfl ?_
 obtain ⟨l1, a2, c3, rfl⟩ := h0_0.len
 refine rg ?_
 refine OW.box hst rfl rfl rfl rfl [I p0.Workers, I p0.Shards, I p0.Hooks, I p0.Ring, .slice a2 (p0.Maps).length c3] rfl ?_
 intro b6 w7 hst
 refine pu 2 [] (nx (CW.seq (CW.seq ?_)))
 refine CW.cutK (fun a w1 => Rep 46 [(1, Pt b6), (22, .bool ((decide (p0.Shards < 1) || decide (p0.Shards > 4)) || decide (((p0.Maps).length : Int) > 4)))] a ∧ St w (fp []) w1 [blkI b6 24 [I p0.Workers, I p0.Shards, I p0.Hooks, I p0.Ring, .slice a2 (p0.Maps).length c3]]) ?_ ?_
 ·refine CW.region ?_
  refine pu 1 [(9, .pointer (some ⟨b6, 1, none⟩))] ?_
  refine OW.ld rfl rfl rfl rfl (by kernel_rfl) (hst.blk 0 rfl rfl) ?_
  refine pu 2 [(12, .bool (decide (p0.Shards < 1)))] ?_
  refine OW.split 12 rfl (fun hc8 => ?_) (fun hc8 => ?_)
  ·refine pu 10 [(22, .bool true)] (OW.nil rfl ?_)
   refine QW.say 22 (v := .bool ((decide (p0.Shards < 1) || decide (p0.Shards > 4)) || decide (((p0.Maps).length : Int) > 4))) rfl (by first | (rw [hc8]; done) | (rw [hc8]; rfl) | simp [hc8]) ?_
   exact QW.meet (fun a ha => ⟨ha.ag, hst.keep [0] rfl⟩)
  refine pu 1 [(13, .pointer (some ⟨b6, 1, none⟩))] ?_
  refine OW.ld rfl rfl rfl rfl (by kernel_rfl) (hst.blk 0 rfl rfl) ?_
  refine pu 3 [(17, .bool (decide (p0.Shards > 4)))] ?_
  refine OW.split 17 rfl (fun hc9 => ?_) (fun hc9 => ?_)
  ·refine pu 5 [(22, .bool true)] (OW.nil rfl ?_)
   refine QW.say 22 (v := .bool ((decide (p0.Shards < 1) || decide (p0.Shards > 4)) || decide (((p0.Maps).length : Int) > 4))) rfl (by first | (rw [hc8, hc9]; done) | (rw [hc8, hc9]; rfl) | simp [hc8, hc9]) ?_
   exact QW.meet (fun a ha => ⟨ha.ag, hst.keep [0] rfl⟩)
  refine pu 1 [(18, .pointer (some ⟨b6, 4, none⟩))] ?_
  refine OW.ld rfl rfl rfl rfl (by kernel_rfl) (hst.blk 0 rfl rfl) ?_
  refine pu 3 [(22, .bool (decide (((p0.Maps).length : Int) > 4)))] (OW.nil rfl ?_)
  refine QW.say 22 (v := .bool ((decide (p0.Shards < 1) || decide (p0.Shards > 4)) || decide (((p0.Maps).length : Int) > 4))) rfl (by first | (rw [hc8, hc9]; done) | (rw [hc8, hc9]; rfl) | simp [hc8, hc9]) ?_
  exact QW.meet (fun a ha => ⟨ha.ag, hst.keep [0] rfl⟩)
 rintro a w1 ⟨ha, hst⟩
 refine CW.go ?_ ha
 refine br (((decide (p0.Shards < 1) || decide (p0.Shards > 4)) || decide (((p0.Maps).length : Int) > 4))) hF (fun hF hc10 => ?_) (fun hF hc10 => ?_)
 ·refine rg ?_
  refine pu 2 [(2, .slice none 0 0), (3, I 2)] (nx (CW.ret (QW.then_ret ?_)))
  have hst := hst.nNil 73 R_t73 none
  obtain rfl := inj hF
  refine QW.ret2 rfl rfl rfl ?_
  exact ⟨(.slice none 0 0), ([]), rfl, hst.keep [1] rfl⟩
 refine CW.skip (QW.next (rg ?_))
 refine pu 1 [(4, .slice none 0 0)] (nx (CW.seq (rg ?_)))
 refine pu 1 [(23, .pointer (some ⟨b6, 4, none⟩))] ?_
 refine OW.ld rfl rfl rfl rfl (by kernel_rfl) (hst.blk 0 rfl rfl) ?_
 refine pu 2 [(25, I ((p0.Maps).length : Int)), (26, I 0)] (nx ?_)
 obtain ⟨o225, ho226, hF⟩ := bs hF
 refine CW.cutK (fun a w1 => ∃ (t227 : (List cmap_Map)) (v223 : Value) (S224 : List Nat), o225 = .inl t227 ∧ Rep 46 [(4, v223)] a ∧ St w (fp []) w1 [nI 73 R_t73 v223 S224 t227 none]) ?_ ?_
 ·refine CW.block ?_
  have hst := hst.nNil 73 R_t73 none
  refine CW.loop (fun n a w1 => ∃ (i371 : Nat) (s368 : (List cmap_Map)) (v369 : Value) (S370 : List Nat), i371 + n = (p0.Maps).length ∧ Rep 46 [(1, Pt b6), (4, v369), (24, .slice a2 (p0.Maps).length c3), (25, I ((p0.Maps).length : Int)), (26, I (i371 : Int))] a ∧ St w (fp []) w1 [blkI b6 24 [I p0.Workers, I p0.Shards, I p0.Hooks, I p0.Ring, .slice a2 (p0.Maps).length c3], nI 73 R_t73 v369 S370 s368 none] ∧ forN (audit_newMaps_l1 fu p0) (fun (s368 : (List cmap_Map)) => (.inl s368)) n i371 s368 = some o225) (p0.Maps).length (fun a ha => ⟨0, ([] : List cmap_Map), (.slice none 0 0), ([]), Nat.zero_add _, ha.ag, hst.keep [0, 1] rfl, ho226⟩) ?_
  rintro n366 a w1 ⟨i371, s368, v369, S370, hi372, ha, hst, hl367⟩
  refine CW.go ?_ ha
  obtain ⟨l373, a374, c375, rfl⟩ := hst.nlen 1 rfl
  refine rg ?_
  refine pu 1 [(27, .bool (decide ((i371 : Int) < ((p0.Maps).length : Int))))] (nx (CW.seq ?_))
  rcases bft (decide ((i371 : Int) < ((p0.Maps).length : Int))) with hc376 | hc376
  ·rcases n366 with _ | n366
   ·exact (cnt0 hi372 hc376).elim
   refine CW.cond_t rfl hc376 (CW.skip (QW.next (CW.seq (CW.block (rg ?_)))))
   obtain ⟨x386, hx387, hl367⟩ := bs hl367
   obtain ⟨g389, o390, c391, hv388⟩ := h0_0.formv (fun _ => ⟨_, rfl⟩) hx387
   refine OW.idx 61 2 rfl rfl rfl rfl hv388 rfl (idx_some hx387).1 (idx_some hx387).2.1 (by kernel_rfl) (by kernel_rfl) ?_
   refine OW.ldN (cs := enc_api_MapDef x386) rfl rfl rfl rfl (by kernel_rfl) (by kernel_rfl) (h0_0.cellv hst hx387 hv388) ?_
   refine OW.alloc hst rfl rfl rfl [I 0, I 0] (by kernel_rfl) ?_
   intro b392 w393 hst
   refine OW.stB hst 2 rfl rfl rfl rfl rfl (by kernel_rfl) rfl rfl [I x386.Kind, I x386.Cap] rfl ?_
   intro w394 hst
   refine nx (rg ?_)
   refine OW.ldN (cs := [I x386.Kind, I x386.Cap]) rfl rfl rfl rfl (by kernel_rfl) (by kernel_rfl) (hst.blkN 2 rfl 0 2) ?_
   refine pu 1 [(32, .pointer (some ⟨b6, 1, none⟩))] ?_
   refine OW.ld rfl rfl rfl rfl (by kernel_rfl) (hst.blk 0 rfl rfl) ?_
   obtain ⟨r405, hr406, hl367⟩ := bs hl367
   refine OW.fn rfl rfl rfl rfl (by kernel_rfl) (cmap_New_ok _ fu x386 p0.Shards r405 hr406 (hst.part [] rfl)) ?_
   rintro e w407 (⟨k409, v411, S412, he410, rfl, hst408⟩ | ⟨he413, rfl, hst408⟩)
   ·have hl367 := ocase_some hl367 he410
    refine ⟨_, rfl, ?_⟩
    have hst := hst.join (idx := []) (rest := [0, 1, 2]) rfl hst408
    obtain ⟨b414, rfl⟩ := hst.fptr 0 rfl
    refine pu 5 [(7, Pt b414), (8, I r405.2)] (nx (CW.seq (rg ?_)))
    refine pu 2 [(38, .bool (r405.2 != 0))] (nx ?_)
    refine br ((r405.2 != 0)) hl367 (fun hl367 hc415 => ?_) (fun hl367 hc415 => ?_)
    ·refine rg ?_
     refine pu 3 [(2, .slice none 0 0), (3, I r405.2)] (nx (CW.ret (QW.then_ret (QW.block_ret (QW.then_ret (QW.then_ret (QW.block_ret (QW.then_ret ?_))))))))
     have hst := hst.nNil 73 R_t73 none
     obtain rfl := inj hl367
     obtain rfl := inj hF
     refine QW.ret2 rfl rfl rfl ?_
     exact ⟨(.slice none 0 0), ([]), rfl, hst.keep [4] rfl⟩
    refine CW.skip (QW.next (CW.region ?_))
    refine pu 2 [(40, .slice a374 (s368).length c375), (41, Pt b414)] ?_
    refine OW.row (α := List Value) (e := 73) (enc := fit 1) (sz := 1) hst rfl rfl rfl [[Pt b414]] rfl (fun _ => fit_len _ _) rfl rfl (fun _ => by kernel_rfl) ?_
    intro g427 w428 hst
    have hst := hst.bchOne (R := R_t73) 0 rfl
    have hst := hst.keep [1, 2, 3, 0, 4] rfl
    have hst : St _ _ _ [_, _, _, bchI R_t73 [[Pt b414]] _ [k409], _] := hst
    obtain ⟨S429, hst⟩ := hst.nOf 4 3 rfl rfl rfl rfl
    have hst := hst.keep [0, 1, 2, 4] rfl
    have hst : St _ _ _ [_, _, _, nI 73 R_t73 (.slice (some ⟨g427, 0, none⟩) 1 1) S429 ([k409]) none] := hst
    obtain ⟨u430, hr431, hl367⟩ := bs hl367
    refine OW.appN hst 1 3 rfl rfl rfl rfl rfl rfl rfl rfl rfl (by kernel_rfl) el73 (room_le hr431) (fun _ _ _ _ h => ones_ptr h) ?_
    intro v432 S433 w434 hst
    have hst := hst.keep [0, 1, 2] rfl
    obtain ⟨l435, a436, c437, rfl⟩ := hst.nlen 1 rfl
    refine pu 1 [(4, .slice a436 ((s368 ++ [k409])).length c437)] (OW.nil rfl (QW.block_normal (QW.next (CW.region ?_))))
    refine pu 2 [(26, I (w64 ((i371 : Int) + 1)))] (OW.nil rfl ?_)
    refine QW.say 26 rfl (congrArg (Value.int .i64) (w64_cnt hc376 l1)) ?_
    exact QW.meet (fun a ha => ⟨n366, Nat.lt_succ_self _, i371 + 1, (s368 ++ [k409]), (.slice a436 ((s368 ++ [k409])).length c437), S433, cnt_next hi372, ha.ag, hst.keep [0, 1] rfl, hl367⟩)
   have hl367 := ocase_none hl367 he413
   refine ⟨_, rfl, ?_⟩
   have hst := hst.join (idx := []) (rest := [0, 1, 2]) rfl hst408
   refine pu 5 [(7, .pointer none), (8, I r405.2)] (nx (CW.seq (rg ?_)))
   refine pu 2 [(38, .bool (r405.2 != 0))] (nx ?_)
   refine br ((r405.2 != 0)) hl367 (fun hl367 hc439 => ?_) (fun hl367 hc439 => ?_)
   ·refine rg ?_
    refine pu 3 [(2, .slice none 0 0), (3, I r405.2)] (nx (CW.ret (QW.then_ret (QW.block_ret (QW.then_ret (QW.then_ret (QW.block_ret (QW.then_ret ?_))))))))
    have hst := hst.nNil 73 R_t73 none
    obtain rfl := inj hl367
    obtain rfl := inj hF
    refine QW.ret2 rfl rfl rfl ?_
    exact ⟨(.slice none 0 0), ([]), rfl, hst.keep [3] rfl⟩
   refine CW.skip (QW.next (CW.region ?_))
   refine pu 2 [(40, .slice a374 (s368).length c375), (41, .pointer none)] ?_
   cases hl367
  rcases n366 with _ | n366
  ·refine CW.cond_f rfl hc376 ?_
   refine CW.exit (QW.then_exit (QW.then_exit ?_))
   refine QW.block_here ?_
   obtain rfl := inj hl367
   exact QW.meet (fun a ha => ⟨s368, (.slice a374 (s368).length c375), S370, rfl, ha.ag, hst.keep [1] rfl⟩)
  exact (cnt1 hi372 hc376).elim
 rintro a w1 ⟨t227, v223, S224, rfl, ha, hst⟩
 refine CW.go ?_ ha
 obtain ⟨l441, a442, c443, rfl⟩ := hst.nlen 0 rfl
 refine rg ?_
 refine pu 3 [(2, .slice a442 (t227).length c443), (3, I 0)] (nx (CW.ret ?_))
 obtain rfl := inj hF
 refine QW.ret2 rfl rfl rfl ?_
 exact ⟨(.slice a442 (t227).length c443), S224, rfl, hst.keep [0] rfl⟩
theorem place_Of_ok (w : World) (p0 : Int) (p1 : Int) (r : Int) (hF : place_Of p0 p1 = some r)
    (hst : St w (fp []) w []) :
    Calls Try.prog 60 [U p0, I p1].toArray w (fun e w' => e = .returned (I r) ∧ St w (fp []) w' []) := by
 refine CW.start (N := 14) Try.func60 rfl rfl rfl (rg ?_)
 refine pu 1 [] (nx (CW.seq (rg ?_)))
 refine pu 2 [(6, .bool (decide (p1 < 1)))] (nx ?_)
 refine br (decide (p1 < 1)) hF (fun hF hc1 => ?_) (fun hF hc1 => ?_)
 ·refine rg ?_
  refine pu 1 [(4, I 0)] (nx (CW.ret (QW.then_ret ?_)))
  obtain rfl := inj hF
  refine QW.ret1 rfl rfl ?_
  exact ⟨rfl, hst.keep [] rfl⟩
 refine CW.skip (QW.next (rg ?_))
 refine pu 5 [(9, U (bShr .u64 (wu64 (p0 * 11400714819323198485)) 32)), (11, U (wu64 p1))] ?_
 obtain ⟨u4, hz5, hF⟩ := bs hF
 refine OW.rem rfl rfl rfl rfl rfl (nz_ne hz5) ?_
 refine pu 2 [(4, I (w64 ((bShr .u64 (wu64 (p0 * 11400714819323198485)) 32).tmod (wu64 p1))))] (nx (CW.ret ?_))
 obtain rfl := inj hF
 refine QW.ret1 rfl rfl ?_
 exact ⟨rfl, hst.keep [] rfl⟩
theorem tappetref12_Of_ok (w : World) (p0 : Int) (p1 : Int) (r : Int) (hF : tappetref12_Of p0 p1 = some r)
    (hst : St w (fp []) w []) :
    Calls Try.prog 30 [U p0, I p1].toArray w (fun e w' => e = .returned (I r) ∧ St w (fp []) w' []) := by
 refine CW.start (N := 29) Try.func30 rfl rfl rfl (rg ?_)
 refine pu 1 [] (nx (CW.seq (rg ?_)))
 refine pu 2 [(9, .bool (decide (p1 < 1)))] (nx ?_)
 refine br (decide (p1 < 1)) hF (fun hF hc1 => ?_) (fun hF hc1 => ?_)
 ·refine rg ?_
  refine pu 1 [(4, I 0)] (nx (CW.ret (QW.then_ret ?_)))
  obtain rfl := inj hF
  refine QW.ret1 rfl rfl ?_
  exact ⟨rfl, hst.keep [] rfl⟩
 refine CW.skip (QW.next (rg ?_))
 refine pu 6 [(5, U (wu64 (p0.tdiv 4294967296))), (6, U (p0.tmod 4294967296))] (nx (rg ?_))
 refine pu 11 [(7, U ((wu64 ((wu64 ((wu64 ((wu64 (p0.tdiv 4294967296)) * 2135587861)) + (wu64 ((p0.tmod 4294967296) * 2654435769)))) + (wu64 ((wu64 ((p0.tmod 4294967296) * 2135587861)).tdiv 4294967296)))).tmod 4294967296))] (nx (rg ?_))
 refine pu 3 [(24, U ((wu64 ((wu64 ((wu64 ((wu64 (p0.tdiv 4294967296)) * 2135587861)) + (wu64 ((p0.tmod 4294967296) * 2654435769)))) + (wu64 ((wu64 ((p0.tmod 4294967296) * 2135587861)).tdiv 4294967296)))).tmod 4294967296)), (26, U (wu64 p1))] ?_
 obtain ⟨u4, hz5, hF⟩ := bs hF
 refine OW.rem rfl rfl rfl rfl rfl (nz_ne hz5) ?_
 refine pu 2 [(4, I (w64 (((wu64 ((wu64 ((wu64 ((wu64 (p0.tdiv 4294967296)) * 2135587861)) + (wu64 ((p0.tmod 4294967296) * 2654435769)))) + (wu64 ((wu64 ((p0.tmod 4294967296) * 2135587861)).tdiv 4294967296)))).tmod 4294967296).tmod (wu64 p1))))] (nx (CW.ret ?_))
 obtain rfl := inj hF
 refine QW.ret1 rfl rfl ?_
 exact ⟨rfl, hst.keep [] rfl⟩
theorem tappetref13_Book_place_ok (w : World) (fu : Nat) (v0 : Value) (S0 : List Nat) (p0 : tappetref13_Book) (p1 : Int) (r : Int) (hF : tappetref13_Book_place fu p0 p1 = some r)
    (hst : St w (fp [itI R_t106 [v0] S0 p0]) w [itI R_t106 [v0] S0 p0]) :
    Calls Try.prog 41 [v0, U p1].toArray w (fun e w' => ∃ (s0 : List Nat), e = .returned (I r) ∧ St w (fp [itI R_t106 [v0] S0 p0]) w' [itI R_t106 [v0] s0 p0]) := by
 refine CW.start (N := 26) Try.func41 rfl rfl rfl ?_
 obtain ⟨b1, rfl⟩ := hst.fptr 0 rfl
 refine rg ?_
 refine pu 1 [] (nx (CW.seq (rg ?_)))
 refine pu 1 [(5, I 0)] (nx ?_)
 obtain ⟨o76, ho77, hF⟩ := bs hF
 refine CW.cutK (fun a w1 => ∃ (t78 : Unit) (S75 : List Nat), o76 = .inl t78 ∧ Rep 26 [] a ∧ St w (fp [itI R_t106 [Pt b1] S0 p0]) w1 [itI R_t106 [Pt b1] S75 p0]) ?_ ?_
 ·refine CW.block ?_
  refine CW.loop (fun n a w1 => ∃ (s128 : Int) (S129 : List Nat), Rep 26 [(0, Pt b1), (1, U p1), (5, I s128)] a ∧ St w (fp [itI R_t106 [Pt b1] S0 p0]) w1 [itI R_t106 [Pt b1] S129 p0] ∧ loop (tappetref13_Book_place_l1 p0 p1) n s128 = some o76) fu (fun a ha => ⟨0, S0, ha.ag, hst.keep [0] rfl, ho77⟩) ?_
  rintro n126 a w1 ⟨s128, S129, ha, hst, hl127⟩
  rcases n126 with _ | n126
  ·exact (loop_zero hl127).elim
  refine CW.go ?_ ha
  refine CW.seq (CW.seq ?_)
  obtain ⟨v130, S131, hst⟩ := hst.openQ1 0 rfl rfl
  have hst := hst.toRow1 1 rfl
  obtain ⟨l132, a133, c134, rfl⟩ := hst.len 1 rfl
  have hst : St _ _ _ [blkI b1 122 [I p0.Cap, .slice a133 (p0.List).length c134], _] := hst
  refine CW.region ?_
  refine pu 4 [(6, I s128), (9, .pointer (some ⟨b1, 1, none⟩))] ?_
  refine OW.ld rfl rfl rfl rfl (by kernel_rfl) (hst.blk 0 rfl rfl) ?_
  refine pu 2 [(12, .bool (decide (s128 < ((p0.List).length : Int))))] (nx ?_)
  refine br (decide (s128 < ((p0.List).length : Int))) hl127 (fun hl127 hc135 => ?_) (fun hl127 hc135 => ?_)
  ·refine CW.skip (QW.next (CW.seq (CW.block (rg ?_))))
   refine pu 3 [(17, .pointer (some ⟨b1, 1, none⟩))] ?_
   refine OW.ld rfl rfl rfl rfl (by kernel_rfl) (hst.blk 0 rfl rfl) ?_
   refine pu 1 [(19, I s128)] ?_
   obtain ⟨x142, hx143, hl127⟩ := bs hl127
   obtain ⟨g145, o146, c147, hv144⟩ := hst.rowv 1 rfl hx143
   refine OW.idx 129 2 rfl rfl rfl rfl hv144 rfl (idx_some hx143).1 (idx_some hx143).2.1 (by kernel_rfl) (by kernel_rfl) ?_
   refine pu 1 [(21, .pointer (some ⟨g145, o146 + Int.toNat s128 * 2, none⟩))] ?_
   refine OW.ld rfl rfl rfl rfl (by kernel_rfl) (hst.rowc 1 rfl (fun _ => rfl) hx143 hv144 0 _ rfl) ?_
   refine pu 2 [(24, .bool (x142.Key == p1))] (nx ?_)
   refine br ((x142.Key == p1)) hl127 (fun hl127 hc148 => ?_) (fun hl127 hc148 => ?_)
   ·refine rg ?_
    refine pu 2 [(4, I s128)] (nx (CW.ret (QW.block_ret (QW.then_ret (QW.then_ret (QW.block_ret (QW.then_ret ?_)))))))
    have hst := hst.toIt 1 rfl (fun _ => rfl) (by decide)
    obtain ⟨S149, hst⟩ := hst.shutP1 R_t122 rfl 0 1 [] rfl rfl rfl p0 rfl rfl
    obtain rfl := inj hl127
    obtain rfl := inj hF
    refine QW.ret1 rfl rfl ?_
    exact ⟨S149, rfl, hst.keep [0] rfl⟩
   refine CW.skip (QW.block_normal (QW.next (CW.region ?_)))
   refine pu 3 [(5, I (w64 (s128 + 1)))] (OW.nil rfl ?_)
   have hst := hst.toIt 1 rfl (fun _ => rfl) (by decide)
   obtain ⟨S150, hst⟩ := hst.shutP1 R_t122 rfl 0 1 [] rfl rfl rfl p0 rfl rfl
   exact QW.meet (fun a ha => ⟨n126, Nat.lt_succ_self _, (w64 (s128 + 1)), S150, ha.ag, hst.keep [0] rfl, hl127⟩)
  refine CW.exit (QW.then_exit (QW.then_exit ?_))
  refine QW.block_here ?_
  have hst := hst.toIt 1 rfl (fun _ => rfl) (by decide)
  obtain ⟨S151, hst⟩ := hst.shutP1 R_t122 rfl 0 1 [] rfl rfl rfl p0 rfl rfl
  obtain rfl := inj hl127
  exact QW.meet (fun a ha => ⟨(), S151, rfl, ha.ag, hst.keep [0] rfl⟩)
 rintro a w1 ⟨t78, S75, rfl, ha, hst⟩
 refine CW.go ?_ ha
 refine rg ?_
 refine pu 1 [(4, I (-1))] (nx (CW.ret ?_))
 obtain rfl := inj hF
 refine QW.ret1 rfl rfl ?_
 exact ⟨S75, rfl, hst.keep [0] rfl⟩
theorem tappetref13_Book_Do_ok (w : World) (fu : Nat) (v0 : Value) (S0 : List Nat) (p0 : tappetref13_Book) (p1 : Int) (p2 : Int) (p3 : Int) (r : api_Res × tappetref13_Book) (hF : tappetref13_Book_Do fu p0 p1 p2 p3 = some r)
    (hst : St w (fp [itI R_t106 [v0] S0 p0]) w [itI R_t106 [v0] S0 p0]) :
    Calls Try.prog 37 [v0, I p1, U p2, U p3].toArray w (fun e w' => ∃ (s0 : List Nat), e = .returned (.agg [I r.1.E, .bool r.1.Found, U r.1.Val, .bool r.1.Out, U r.1.OutKey, U r.1.OutVal].toArray) ∧ St w (fp [itI R_t106 [v0] S0 p0]) w' [itI R_t106 [v0] s0 r.2]) := by
 refine CW.start (N := 126) Try.func37 rfl rfl rfl ?_
 obtain ⟨b1, rfl⟩ := hst.fptr 0 rfl
 refine rg ?_
 refine OW.alloc hst rfl rfl rfl [I 0, .bool false, U 0, .bool false, U 0, U 0] (by kernel_rfl) ?_
 intro b4 w5 hst
 refine nx (rg ?_)
 refine pu 2 [(15, Pt b1), (16, U p2)] ?_
 obtain ⟨r11, hr12, hF⟩ := bs hF
 refine OW.fn rfl rfl rfl rfl (by kernel_rfl) (tappetref13_Book_place_ok _ fu (Pt b1) S0 p0 p2 r11 hr12 (hst.part [0] rfl)) ?_
 rintro e w13 ⟨S15, rfl, hst14⟩
 refine ⟨_, rfl, ?_⟩
 have hst := hst.join (idx := [0]) (rest := [1]) rfl hst14
 refine pu 1 [(9, I r11)] (nx (rg ?_))
 refine pu 1 [(10, U 0)] (nx (CW.seq (rg ?_)))
 refine pu 2 [(19, .bool (decide (r11 ≥ 0)))] (nx ?_)
 obtain ⟨o36, ho37, hF⟩ := bs hF
 refine CW.cutK (fun a w1 => ∃ (S35 : List Nat), Rep 126 [(0, Pt b1), (1, I p1), (2, U p2), (3, U p3), (8, Pt b4), (9, I r11), (10, U o36)] a ∧ St w (fp [itI R_t106 [Pt b1] S0 p0]) w1 [itI R_t106 [Pt b1] S35 p0, itI R_t171 [Pt b4] ([b4]) (api_Res.mk 0 false 0 false 0 0)]) ?_ ?_
 ·refine br (decide (r11 ≥ 0)) ho37 (fun ho37 hc38 => ?_) (fun ho37 hc38 => ?_)
  ·obtain ⟨v39, S40, hst⟩ := hst.openQ1 0 rfl rfl
   have hst := hst.toRow1 2 rfl
   obtain ⟨l41, a42, c43, rfl⟩ := hst.len 2 rfl
   have hst : St _ _ _ [blkI b1 122 [I p0.Cap, .slice a42 (p0.List).length c43], _, _] := hst
   refine CW.region ?_
   refine pu 3 [(22, .pointer (some ⟨b1, 1, none⟩))] ?_
   refine OW.ld rfl rfl rfl rfl (by kernel_rfl) (hst.blk 0 rfl rfl) ?_
   refine pu 1 [(24, I r11)] ?_
   obtain ⟨x50, hx51, ho37⟩ := bs ho37
   obtain ⟨g53, o54, c55, hv52⟩ := hst.rowv 2 rfl hx51
   refine OW.idx 129 2 rfl rfl rfl rfl hv52 rfl (idx_some hx51).1 (idx_some hx51).2.1 (by kernel_rfl) (by kernel_rfl) ?_
   refine pu 1 [(26, .pointer (some ⟨g53, o54 + Int.toNat r11 * 2 + 1, none⟩))] ?_
   refine OW.ld rfl rfl rfl rfl (by kernel_rfl) (hst.rowc 2 rfl (fun _ => rfl) hx51 hv52 1 _ rfl) ?_
   refine pu 1 [(10, U x50.Val)] (OW.nil rfl ?_)
   have hst := hst.toIt 2 rfl (fun _ => rfl) (by decide)
   obtain ⟨S56, hst⟩ := hst.shutP1 R_t122 rfl 0 2 [1] rfl rfl rfl p0 rfl rfl
   have hst := hst.shutP0 (enc := enc_api_Res) (sz := 6) (he := fun _ => rfl) 0 rfl (api_Res.mk 0 false 0 false 0 0) rfl
   obtain rfl := inj ho37
   exact QW.meet (fun a ha => ⟨S56, ha.ag, hst.keep [1, 0] rfl⟩)
  refine CW.skip ?_
  have hst := hst.shutP0 (enc := enc_api_Res) (sz := 6) (he := fun _ => rfl) 1 rfl (api_Res.mk 0 false 0 false 0 0) rfl
  obtain rfl := inj ho37
  exact QW.meet (fun a ha => ⟨S15, ha.ag, hst.keep [0, 1] rfl⟩)
 rintro a w1 ⟨S35, ha, hst⟩
 refine CW.go ?_ ha
 refine CW.seq ?_
 obtain ⟨v57, S58, hst⟩ := hst.openQ1 0 rfl rfl
 have hst := hst.toRow1 2 rfl
 obtain ⟨l59, a60, c61, rfl⟩ := hst.len 2 rfl
 have hst : St _ _ _ [blkI b1 122 [I p0.Cap, .slice a60 (p0.List).length c61], _, _] := hst
 refine CW.cutK (fun a w1 => Rep 126 [(0, Pt b1), (1, I p1), (2, U p2), (3, U p3), (8, Pt b4), (9, I r11), (10, U o36), (11, .bool (decide (r11 < 0) && decide (((p0.List).length : Int) ≥ p0.Cap)))] a ∧ St w (fp [itI R_t106 [Pt b1] S0 p0]) w1 [blkI b1 122 [I p0.Cap, .slice a60 (p0.List).length c61], itI R_t171 [Pt b4] ([b4]) (api_Res.mk 0 false 0 false 0 0), rowI (.slice a60 (p0.List).length c61) 129 enc_api_Pair 2 p0.List]) ?_ ?_
 ·refine CW.still (by kernel_rfl) (by kernel_rfl) ?_
  intro w65 hch66
  have hst := hst.same hch66
  refine OS.pure 3 [(30, .bool (decide (r11 < 0)))] rfl (by kernel_rfl) ?_
  refine OS.split 30 rfl (fun hc67 => ?_) (fun hc67 => ?_)
  ·refine OS.pure 3 [(33, .pointer (some ⟨b1, 1, none⟩))] rfl (by kernel_rfl) ?_
   refine OS.ld rfl rfl rfl rfl rfl (by kernel_rfl) (hst.blk 0 rfl rfl) ?_
   refine OS.pure 4 [(35, I ((p0.List).length : Int)), (38, Pt b1)] rfl (by kernel_rfl) ?_
   refine OS.ld rfl rfl rfl rfl rfl (by kernel_rfl) (hst.blk 0 rfl rfl) ?_
   refine OS.pure 3 [(11, .bool (decide (((p0.List).length : Int) ≥ p0.Cap)))] rfl (by kernel_rfl) ?_
   refine OS.fin rfl ?_
   refine QW.say 11 (v := .bool (decide (r11 < 0) && decide (((p0.List).length : Int) ≥ p0.Cap))) rfl (by first | (rw [hc67]; done) | (rw [hc67]; rfl) | simp [hc67]) ?_
   exact QW.meet (fun a ha => ⟨ha.ag, hst.keep [0, 1, 2] rfl⟩)
  refine OS.pure 12 [(11, .bool false)] rfl (by kernel_rfl) ?_
  refine OS.fin rfl ?_
  refine QW.say 11 (v := .bool (decide (r11 < 0) && decide (((p0.List).length : Int) ≥ p0.Cap))) rfl (by first | (rw [hc67]; done) | (rw [hc67]; rfl) | simp [hc67]) ?_
  exact QW.meet (fun a ha => ⟨ha.ag, hst.keep [0, 1, 2] rfl⟩)
 rintro a w1 ⟨ha, hst⟩
 refine CW.go ?_ ha
 refine CW.seq (rg ?_)
 refine pu 1 [(42, I p1)] (nx (CW.block (rg ?_)))
 refine pu 2 [(43, .bool (p1 == 0))] (nx ?_)
 refine br ((p1 == 0)) hF (fun hF hc68 => ?_) (fun hF hc68 => ?_)
 ·refine CW.seq ?_
  have hst := hst.openQ0 1 rfl
  refine CW.region ?_
  refine pu 4 [(48, .agg [I 0, .bool (decide (r11 ≥ 0)), U o36, .bool false, U 0, U 0].toArray)] ?_
  refine OW.stB hst 1 rfl rfl rfl rfl rfl (by kernel_rfl) rfl rfl [I 0, .bool (decide (r11 ≥ 0)), U o36, .bool false, U 0, U 0] rfl ?_
  intro w70 hst
  refine nx (CW.ret (QW.block_ret (QW.then_ret ?_)))
  have hst := hst.toIt 2 rfl (fun _ => rfl) (by decide)
  obtain ⟨S71, hst⟩ := hst.shutP1 R_t122 rfl 0 2 [1] rfl rfl rfl p0 rfl rfl
  obtain rfl := inj hF
  refine QW.ret_c rfl rfl (run_loadN (cs := [I 0, .bool (decide (r11 ≥ 0)), U o36, .bool false, U 0, U 0]) (by kernel_rfl) (by kernel_rfl) (hst.blkN 0 rfl 0 6)) ?_
  exact ⟨S71, rfl, hst.keep [1] rfl⟩
 refine rg ?_
 refine pu 2 [(49, .bool (p1 == 1))] (nx ?_)
 refine br ((p1 == 1)) hF (fun hF hc72 => ?_) (fun hF hc72 => ?_)
 ·refine CW.seq ?_
  have hst := hst.openQ0 1 rfl
  refine CW.region ?_
  refine pu 3 [(53, .agg [I 0, .bool (decide (r11 ≥ 0)), U 0, .bool false, U 0, U 0].toArray)] ?_
  refine OW.stB hst 1 rfl rfl rfl rfl rfl (by kernel_rfl) rfl rfl [I 0, .bool (decide (r11 ≥ 0)), U 0, .bool false, U 0, U 0] rfl ?_
  intro w74 hst
  refine nx (CW.ret (QW.block_ret (QW.then_ret ?_)))
  have hst := hst.toIt 2 rfl (fun _ => rfl) (by decide)
  obtain ⟨S75, hst⟩ := hst.shutP1 R_t122 rfl 0 2 [1] rfl rfl rfl p0 rfl rfl
  obtain rfl := inj hF
  refine QW.ret_c rfl rfl (run_loadN (cs := [I 0, .bool (decide (r11 ≥ 0)), U 0, .bool false, U 0, U 0]) (by kernel_rfl) (by kernel_rfl) (hst.blkN 0 rfl 0 6)) ?_
  exact ⟨S75, rfl, hst.keep [1] rfl⟩
 refine CW.seq (rg ?_)
 refine pu 2 [(54, .bool (p1 == 2))] (nx ?_)
 obtain ⟨o80, ho81, hF⟩ := bs hF
 refine CW.cutK (fun a w1 => ∃ (S79 : List Nat), Rep 126 [(0, Pt b1), (1, I p1), (2, U p2), (3, U p3), (8, Pt b4), (9, I r11), (10, U o36), (11, .bool (decide (r11 < 0) && decide (((p0.List).length : Int) ≥ p0.Cap))), (42, I p1), (54, .bool o80)] a ∧ St w (fp [itI R_t106 [Pt b1] S0 p0]) w1 [itI R_t106 [Pt b1] S79 p0, itI R_t171 [Pt b4] ([b4]) (api_Res.mk 0 false 0 false 0 0)]) ?_ ?_
 ·refine br ((p1 == 2)) ho81 (fun ho81 hc82 => ?_) (fun ho81 hc82 => ?_)
  ·refine CW.skip ?_
   have hst := hst.toIt 2 rfl (fun _ => rfl) (by decide)
   obtain ⟨S83, hst⟩ := hst.shutP1 R_t122 rfl 0 2 [1] rfl rfl rfl p0 rfl rfl
   obtain rfl := inj ho81
   exact QW.meet (fun a ha => ⟨S83, ha.ag, hst.keep [1, 0] rfl⟩)
  refine CW.region ?_
  refine pu 2 [(54, .bool (p1 == 4))] (OW.nil rfl ?_)
  have hst := hst.toIt 2 rfl (fun _ => rfl) (by decide)
  obtain ⟨S84, hst⟩ := hst.shutP1 R_t122 rfl 0 2 [1] rfl rfl rfl p0 rfl rfl
  obtain rfl := inj ho81
  exact QW.meet (fun a ha => ⟨S84, ha.ag, hst.keep [1, 0] rfl⟩)
 rintro a w1 ⟨S79, ha, hst⟩
 refine CW.go ?_ ha
 refine br (o80) hF (fun hF hc85 => ?_) (fun hF hc85 => ?_)
 ·refine CW.seq (rg ?_)
  refine pu 1 [(57, .bool (decide (r11 < 0) && decide (((p0.List).length : Int) ≥ p0.Cap)))] (nx ?_)
  refine br ((decide (r11 < 0) && decide (((p0.List).length : Int) ≥ p0.Cap))) hF (fun hF hc86 => ?_) (fun hF hc86 => ?_)
  ·refine CW.seq ?_
   have hst := hst.openQ0 1 rfl
   refine CW.region ?_
   refine pu 1 [(58, .agg [I 40, .bool false, U 0, .bool false, U 0, U 0].toArray)] ?_
   refine OW.stB hst 1 rfl rfl rfl rfl rfl (by kernel_rfl) rfl rfl [I 40, .bool false, U 0, .bool false, U 0, U 0] rfl ?_
   intro w88 hst
   refine nx (CW.ret (QW.then_ret (QW.block_ret (QW.then_ret ?_))))
   obtain rfl := inj hF
   refine QW.ret_c rfl rfl (run_loadN (cs := [I 40, .bool false, U 0, .bool false, U 0, U 0]) (by kernel_rfl) (by kernel_rfl) (hst.blkN 1 rfl 0 6)) ?_
   exact ⟨S79, rfl, hst.keep [0] rfl⟩
  refine CW.skip (QW.next (rg ?_))
  refine pu 4 [(62, .agg [I 0, .bool (decide (r11 ≥ 0)), U o36, .bool false, U 0, U 0].toArray)] ?_
  refine OW.alloc hst rfl rfl rfl [I 0, .bool false, U 0, .bool false, U 0, U 0] (by kernel_rfl) ?_
  intro b92 w93 hst
  refine OW.stB hst 2 rfl rfl rfl rfl rfl (by kernel_rfl) rfl rfl [I 0, .bool (decide (r11 ≥ 0)), U o36, .bool false, U 0, U 0] rfl ?_
  intro w94 hst
  refine nx (CW.seq (rg ?_))
  refine pu 2 [(64, .bool (p1 == 4))] (nx ?_)
  obtain ⟨o98, ho99, hF⟩ := bs hF
  refine CW.cutK (fun a w1 => Rep 126 [(0, Pt b1), (2, U p2), (3, U o98.1), (8, Pt b4), (9, I r11), (12, Pt b92)] a ∧ St w (fp [itI R_t106 [Pt b1] S0 p0]) w1 [itI R_t106 [Pt b1] S79 p0, itI R_t171 [Pt b4] ([b4]) (api_Res.mk 0 false 0 false 0 0), itI R_t171 [Pt b92] ([b92]) o98.2]) ?_ ?_
  ·refine br ((p1 == 4)) ho99 (fun ho99 hc100 => ?_) (fun ho99 hc100 => ?_)
   ·refine rg ?_
    refine pu 4 [(3, U (wu64 (o36 + p3)))] (nx (CW.region ?_))
    refine pu 2 [(68, U (wu64 (o36 + p3))), (69, .pointer (some ⟨b92, 2, none⟩))] ?_
    refine OW.stB hst 2 rfl rfl rfl rfl rfl (by kernel_rfl) rfl rfl [I 0, .bool (decide (r11 ≥ 0)), U (wu64 (o36 + p3)), .bool false, U 0, U 0] rfl ?_
    intro w102 hst
    refine OW.nil rfl ?_
    have hst := hst.shutP0 (enc := enc_api_Res) (sz := 6) (he := fun _ => rfl) 2 rfl (api_Res.mk 0 (decide (r11 ≥ 0)) (wu64 (o36 + p3)) false 0 0) rfl
    obtain rfl := inj ho99
    exact QW.meet (fun a ha => ⟨ha.ag, hst.keep [0, 1, 2] rfl⟩)
   refine CW.skip ?_
   have hst := hst.shutP0 (enc := enc_api_Res) (sz := 6) (he := fun _ => rfl) 2 rfl (api_Res.mk 0 (decide (r11 ≥ 0)) o36 false 0 0) rfl
   obtain rfl := inj ho99
   exact QW.meet (fun a ha => ⟨ha.ag, hst.keep [0, 1, 2] rfl⟩)
  rintro a w1 ⟨ha, hst⟩
  refine CW.go ?_ ha
  refine CW.seq (rg ?_)
  refine pu 2 [(71, .bool (decide (r11 < 0)))] (nx ?_)
  refine br (decide (r11 < 0)) hF (fun hF hc103 => ?_) (fun hF hc103 => ?_)
  ·obtain ⟨v104, S105, hst⟩ := hst.openQ1 0 rfl rfl
   have hst := hst.toRow1 3 rfl
   obtain ⟨l106, a107, c108, rfl⟩ := hst.len 3 rfl
   have hst : St _ _ _ [blkI b1 122 [I p0.Cap, .slice a107 (p0.List).length c108], _, _, _] := hst
   refine CW.region ?_
   refine pu 4 [(72, Pt b1), (75, .pointer (some ⟨b1, 1, none⟩))] ?_
   refine OW.ld rfl rfl rfl rfl (by kernel_rfl) (hst.blk 0 rfl rfl) ?_
   refine pu 3 [(79, .agg [U p2, U o98.1].toArray)] ?_
   refine OW.row (α := api_Pair) (e := 129) (enc := enc_api_Pair) (sz := 2) hst rfl rfl rfl [(api_Pair.mk p2 o98.1)] rfl (fun _ => rfl) rfl rfl (fun _ => by kernel_rfl) ?_
   intro g119 w120 hst
   obtain ⟨u121, hr122, hF⟩ := bs hF
   refine OW.app hst 3 rfl (fun _ => rfl) (fun _ => rfl) rfl rfl rfl rfl rfl rfl (by kernel_rfl) el129 (hst.rd 4 rfl (fun _ => rfl) [] rfl (hst.len 4 rfl).1) (room_le hr122) ?_
   intro v123 w124 hst
   obtain ⟨l125, a126, c127, rfl⟩ := hst.len 3 rfl
   refine pu 2 [(83, .pointer (some ⟨b1, 1, none⟩))] ?_
   refine OW.stB hst 0 rfl rfl rfl rfl rfl (by kernel_rfl) rfl rfl [I p0.Cap, .slice a126 ((p0.List ++ [(api_Pair.mk p2 o98.1)])).length c127] rfl ?_
   intro w128 hst
   refine nx (CW.seq ?_)
   have hst := hst.openQ0 2 rfl
   have hst := hst.openQ0 1 rfl
   refine CW.region ?_
   refine OW.ldN (cs := [I o98.2.E, .bool o98.2.Found, U o98.2.Val, .bool o98.2.Out, U o98.2.OutKey, U o98.2.OutVal]) rfl rfl rfl rfl (by kernel_rfl) (by kernel_rfl) (hst.blkN 2 rfl 0 6) ?_
   refine OW.stB hst 1 rfl rfl rfl rfl rfl (by kernel_rfl) rfl rfl [I o98.2.E, .bool o98.2.Found, U o98.2.Val, .bool o98.2.Out, U o98.2.OutKey, U o98.2.OutVal] rfl ?_
   intro w130 hst
   refine nx (CW.ret (QW.block_ret (QW.then_ret ?_)))
   have hst := hst.toIt 3 rfl (fun _ => rfl) (by decide)
   obtain ⟨S131, hst⟩ := hst.shutP1 R_t122 rfl 0 3 [1, 2, 4] rfl rfl rfl (tappetref13_Book.mk p0.Cap (p0.List ++ [(api_Pair.mk p2 o98.1)])) rfl rfl
   obtain rfl := inj hF
   refine QW.ret_c rfl rfl (run_loadN (cs := [I o98.2.E, .bool o98.2.Found, U o98.2.Val, .bool o98.2.Out, U o98.2.OutKey, U o98.2.OutVal]) (by kernel_rfl) (by kernel_rfl) (hst.blkN 0 rfl 0 6)) ?_
   exact ⟨S131, rfl, hst.keep [3] rfl⟩
  obtain ⟨v132, S133, hst⟩ := hst.openQ1 0 rfl rfl
  have hst := hst.toRow1 3 rfl
  obtain ⟨l134, a135, c136, rfl⟩ := hst.len 3 rfl
  have hst : St _ _ _ [blkI b1 122 [I p0.Cap, .slice a135 (p0.List).length c136], _, _, _] := hst
  refine CW.region ?_
  refine pu 3 [(86, .pointer (some ⟨b1, 1, none⟩))] ?_
  refine OW.ld rfl rfl rfl rfl (by kernel_rfl) (hst.blk 0 rfl rfl) ?_
  refine pu 2 [(88, I r11), (89, U o98.1)] ?_
  obtain ⟨x144, hx145, hF⟩ := bs hF
  obtain ⟨g147, o148, c149, hv146⟩ := hst.rowv 3 rfl hx145
  refine OW.idx 129 2 rfl rfl rfl rfl hv146 rfl (idx_some hx145).1 (idx_some hx145).2.1 (by kernel_rfl) (by kernel_rfl) ?_
  refine pu 1 [(91, .pointer (some ⟨g147, o148 + Int.toNat r11 * 2 + 1, none⟩))] ?_
  refine OW.stR hst 3 rfl hv146 (fun _ => rfl) rfl rfl hx145 1 rfl rfl rfl (by kernel_rfl) rfl rfl (api_Pair.mk x144.Key o98.1) rfl ?_
  intro w150 hst
  refine nx (CW.seq ?_)
  have hst := hst.openQ0 2 rfl
  have hst := hst.openQ0 1 rfl
  refine CW.region ?_
  refine OW.ldN (cs := [I o98.2.E, .bool o98.2.Found, U o98.2.Val, .bool o98.2.Out, U o98.2.OutKey, U o98.2.OutVal]) rfl rfl rfl rfl (by kernel_rfl) (by kernel_rfl) (hst.blkN 2 rfl 0 6) ?_
  refine OW.stB hst 1 rfl rfl rfl rfl rfl (by kernel_rfl) rfl rfl [I o98.2.E, .bool o98.2.Found, U o98.2.Val, .bool o98.2.Out, U o98.2.OutKey, U o98.2.OutVal] rfl ?_
  intro w152 hst
  refine nx (CW.ret (QW.block_ret (QW.then_ret ?_)))
  have hst := hst.toIt 3 rfl (fun _ => rfl) (by decide)
  obtain ⟨S153, hst⟩ := hst.shutP1 R_t122 rfl 0 3 [1, 2] rfl rfl rfl (tappetref13_Book.mk p0.Cap (p0.List.set (Int.toNat r11) (api_Pair.mk x144.Key o98.1))) rfl rfl
  obtain rfl := inj hF
  refine QW.ret_c rfl rfl (run_loadN (cs := [I o98.2.E, .bool o98.2.Found, U o98.2.Val, .bool o98.2.Out, U o98.2.OutKey, U o98.2.OutVal]) (by kernel_rfl) (by kernel_rfl) (hst.blkN 0 rfl 0 6)) ?_
  exact ⟨S153, rfl, hst.keep [2] rfl⟩
 refine rg ?_
 refine pu 2 [(93, .bool (p1 == 3))] (nx ?_)
 refine br ((p1 == 3)) hF (fun hF hc154 => ?_) (fun hF hc154 => ?_)
 ·refine rg ?_
  refine pu 1 [(13, .slice none 0 0)] (nx (CW.seq (rg ?_)))
  refine pu 1 [(14, I 0)] (nx ?_)
  obtain ⟨o298, ho299, hF⟩ := bs hF
  refine CW.cutK (fun a w1 => ∃ (S296 : List Nat) (v297 : Value), Rep 126 [(0, Pt b1), (8, Pt b4), (9, I r11), (10, U o36), (13, v297)] a ∧ St w (fp [itI R_t106 [Pt b1] S0 p0]) w1 [itI R_t106 [Pt b1] S296 p0, itI R_t171 [Pt b4] ([b4]) (api_Res.mk 0 false 0 false 0 0), rowI v297 129 enc_api_Pair 2 o298]) ?_ ?_
  ·refine CW.block ?_
   have hst := hst.nilRow api_Pair 129 enc_api_Pair 2
   refine CW.loop (fun n a w1 => ∃ (s394 : (List api_Pair) × Int) (S395 : List Nat) (v396 : Value), Rep 126 [(0, Pt b1), (8, Pt b4), (9, I r11), (10, U o36), (13, v396), (14, I s394.2)] a ∧ St w (fp [itI R_t106 [Pt b1] S0 p0]) w1 [itI R_t106 [Pt b1] S395 p0, itI R_t171 [Pt b4] ([b4]) (api_Res.mk 0 false 0 false 0 0), rowI v396 129 enc_api_Pair 2 s394.1] ∧ loop (tappetref13_Book_Do_l1 p0 r11) n s394 = some o298) fu (fun a ha => ⟨(([] : List api_Pair), 0), S79, (.slice none 0 0), ha.ag, hst.keep [0, 1, 2] rfl, ho299⟩) ?_
   rintro n392 a w1 ⟨s394, S395, v396, ha, hst, hl393⟩
   rcases n392 with _ | n392
   ·exact (loop_zero hl393).elim
   refine CW.go ?_ ha
   obtain ⟨l397, a398, c399, rfl⟩ := hst.len 2 rfl
   refine CW.seq (CW.seq ?_)
   obtain ⟨v400, S401, hst⟩ := hst.openQ1 0 rfl rfl
   have hst := hst.toRow1 3 rfl
   obtain ⟨l402, a403, c404, rfl⟩ := hst.len 3 rfl
   have hst : St _ _ _ [blkI b1 122 [I p0.Cap, .slice a403 (p0.List).length c404], _, _, _] := hst
   refine CW.region ?_
   refine pu 4 [(95, I s394.2), (98, .pointer (some ⟨b1, 1, none⟩))] ?_
   refine OW.ld rfl rfl rfl rfl (by kernel_rfl) (hst.blk 0 rfl rfl) ?_
   refine pu 2 [(101, .bool (decide (s394.2 < ((p0.List).length : Int))))] (nx ?_)
   refine br (decide (s394.2 < ((p0.List).length : Int))) hl393 (fun hl393 hc405 => ?_) (fun hl393 hc405 => ?_)
   ·refine CW.skip (QW.next (CW.seq (CW.block (rg ?_))))
    refine pu 3 [(106, .bool (s394.2 != r11))] (nx ?_)
    refine br ((s394.2 != r11)) hl393 (fun hl393 hc406 => ?_) (fun hl393 hc406 => ?_)
    ·refine CW.region ?_
     refine pu 4 [(107, .slice a398 (s394.1).length c399), (110, .pointer (some ⟨b1, 1, none⟩))] ?_
     refine OW.ld rfl rfl rfl rfl (by kernel_rfl) (hst.blk 0 rfl rfl) ?_
     refine pu 1 [(112, I s394.2)] ?_
     obtain ⟨x422, hx423, hl393⟩ := bs hl393
     obtain ⟨g425, o426, c427, hv424⟩ := hst.rowv 3 rfl hx423
     refine OW.idx 129 2 rfl rfl rfl rfl hv424 rfl (idx_some hx423).1 (idx_some hx423).2.1 (by kernel_rfl) (by kernel_rfl) ?_
     refine OW.ldN (cs := enc_api_Pair x422) rfl rfl rfl rfl (by kernel_rfl) (by kernel_rfl) (hst.rowc 3 rfl (fun _ => rfl) hx423 hv424) ?_
     refine OW.row (α := api_Pair) (e := 129) (enc := enc_api_Pair) (sz := 2) hst rfl rfl rfl [x422] rfl (fun _ => rfl) rfl rfl (fun _ => by kernel_rfl) ?_
     intro g428 w429 hst
     obtain ⟨u430, hr431, hl393⟩ := bs hl393
     refine OW.app hst 2 rfl (fun _ => rfl) (fun _ => rfl) rfl rfl rfl rfl rfl rfl (by kernel_rfl) el129 (hst.rd 4 rfl (fun _ => rfl) [] rfl (hst.len 4 rfl).1) (room_le hr431) ?_
     intro v432 w433 hst
     obtain ⟨l434, a435, c436, rfl⟩ := hst.len 2 rfl
     refine pu 1 [(13, .slice a435 ((s394.1 ++ [x422])).length c436)] (OW.nil rfl (QW.block_normal (QW.next (CW.region ?_))))
     refine pu 3 [(14, I (w64 (s394.2 + 1)))] (OW.nil rfl ?_)
     have hst := hst.toIt 3 rfl (fun _ => rfl) (by decide)
     obtain ⟨S437, hst⟩ := hst.shutP1 R_t122 rfl 0 3 [1, 2, 4] rfl rfl rfl p0 rfl rfl
     exact QW.meet (fun a ha => ⟨n392, Nat.lt_succ_self _, ((s394.1 ++ [x422]), w64 (s394.2 + 1)), S437, (.slice a435 ((s394.1 ++ [x422])).length c436), ha.ag, hst.keep [3, 0, 1] rfl, hl393⟩)
    refine CW.skip (QW.block_normal (QW.next (CW.region ?_)))
    refine pu 3 [(14, I (w64 (s394.2 + 1)))] (OW.nil rfl ?_)
    have hst := hst.toIt 3 rfl (fun _ => rfl) (by decide)
    obtain ⟨S439, hst⟩ := hst.shutP1 R_t122 rfl 0 3 [1, 2] rfl rfl rfl p0 rfl rfl
    exact QW.meet (fun a ha => ⟨n392, Nat.lt_succ_self _, (s394.1, w64 (s394.2 + 1)), S439, (.slice a398 (s394.1).length c399), ha.ag, hst.keep [2, 0, 1] rfl, hl393⟩)
   refine CW.exit (QW.then_exit (QW.then_exit ?_))
   refine QW.block_here ?_
   have hst := hst.toIt 3 rfl (fun _ => rfl) (by decide)
   obtain ⟨S441, hst⟩ := hst.shutP1 R_t122 rfl 0 3 [1, 2] rfl rfl rfl p0 rfl rfl
   obtain rfl := inj hl393
   exact QW.meet (fun a ha => ⟨S441, (.slice a398 (s394.1).length c399), ha.ag, hst.keep [2, 0, 1] rfl⟩)
  rintro a w1 ⟨S296, v297, ha, hst⟩
  refine CW.go ?_ ha
  obtain ⟨l443, a444, c445, rfl⟩ := hst.len 2 rfl
  refine CW.seq ?_
  obtain ⟨v446, S447, hst⟩ := hst.openQ1 0 rfl rfl
  have hst := hst.toRow1 3 rfl
  obtain ⟨l448, a449, c450, rfl⟩ := hst.len 3 rfl
  have hst : St _ _ _ [blkI b1 122 [I p0.Cap, .slice a449 (p0.List).length c450], _, _, _] := hst
  refine CW.region ?_
  refine pu 4 [(118, .slice a444 (o298).length c445), (120, .pointer (some ⟨b1, 1, none⟩))] ?_
  refine OW.stB hst 0 rfl rfl rfl rfl rfl (by kernel_rfl) rfl rfl [I p0.Cap, .slice a444 (o298).length c445] rfl ?_
  intro w452 hst
  refine nx (CW.seq ?_)
  have hst := hst.openQ0 1 rfl
  refine CW.region ?_
  refine pu 4 [(124, .agg [I 0, .bool (decide (r11 ≥ 0)), U o36, .bool false, U 0, U 0].toArray)] ?_
  refine OW.stB hst 1 rfl rfl rfl rfl rfl (by kernel_rfl) rfl rfl [I 0, .bool (decide (r11 ≥ 0)), U o36, .bool false, U 0, U 0] rfl ?_
  intro w454 hst
  refine nx (CW.ret (QW.block_ret (QW.then_ret ?_)))
  have hst := hst.toIt 2 rfl (fun _ => rfl) (by decide)
  obtain ⟨S455, hst⟩ := hst.shutP1 R_t122 rfl 0 2 [1, 3] rfl rfl rfl (tappetref13_Book.mk p0.Cap o298) rfl rfl
  obtain rfl := inj hF
  refine QW.ret_c rfl rfl (run_loadN (cs := [I 0, .bool (decide (r11 ≥ 0)), U o36, .bool false, U 0, U 0]) (by kernel_rfl) (by kernel_rfl) (hst.blkN 0 rfl 0 6)) ?_
  exact ⟨S455, rfl, hst.keep [2] rfl⟩
 refine CW.skip (QW.block_normal (QW.next (CW.seq ?_)))
 have hst := hst.openQ0 1 rfl
 refine CW.region ?_
 refine pu 1 [(125, .agg [I 2, .bool false, U 0, .bool false, U 0, U 0].toArray)] ?_
 refine OW.stB hst 1 rfl rfl rfl rfl rfl (by kernel_rfl) rfl rfl [I 2, .bool false, U 0, .bool false, U 0, U 0] rfl ?_
 intro w457 hst
 refine nx (CW.ret ?_)
 obtain rfl := inj hF
 refine QW.ret_c rfl rfl (run_loadN (cs := [I 2, .bool false, U 0, .bool false, U 0, U 0]) (by kernel_rfl) (by kernel_rfl) (hst.blkN 1 rfl 0 6)) ?_
 exact ⟨S79, rfl, hst.keep [0] rfl⟩
theorem tappetref14_LRU_forget_ok (w : World) (fu : Nat) (v0 : Value) (S0 : List Nat) (p0 : tappetref14_LRU) (p1 : Int) (r : tappetref14_LRU) (hF : tappetref14_LRU_forget fu p0 p1 = some r)
    (hst : St w (fp [itI R_t109 [v0] S0 p0]) w [itI R_t109 [v0] S0 p0]) :
    Calls Try.prog 40 [v0, U p1].toArray w (fun e w' => ∃ (s0 : List Nat), e = .returned (.tuple #[]) ∧ St w (fp [itI R_t109 [v0] S0 p0]) w' [itI R_t109 [v0] s0 r]) := by
 refine CW.start (N := 53) Try.func40 rfl rfl rfl ?_
 obtain ⟨b1, rfl⟩ := hst.fptr 0 rfl
 refine rg ?_
 refine pu 1 [(4, .slice none 0 0)] (nx (rg ?_))
 refine pu 1 [(5, .slice none 0 0)] (nx (CW.seq (rg ?_)))
 refine pu 1 [(6, I 0)] (nx ?_)
 obtain ⟨o299, ho300, hF⟩ := bs hF
 refine CW.cutK (fun a w1 => ∃ (S296 : List Nat) (v297 : Value) (v298 : Value), Rep 53 [(0, Pt b1), (4, v297), (5, v298)] a ∧ St w (fp [itI R_t109 [Pt b1] S0 p0]) w1 [itI R_t109 [Pt b1] S296 p0, rowI v297 42 (encInt .u64) 1 o299.1, rowI v298 3 (encInt .i64) 1 o299.2]) ?_ ?_
 ·refine CW.block ?_
  have hst := hst.nilRow Int 42 (encInt .u64) 1
  have hst := hst.nilRow Int 3 (encInt .i64) 1
  refine CW.loop (fun n a w1 => ∃ (s496 : (List Int) × (List Int) × Int) (S497 : List Nat) (v498 : Value) (v499 : Value), Rep 53 [(0, Pt b1), (1, U p1), (4, v498), (5, v499), (6, I s496.2.2)] a ∧ St w (fp [itI R_t109 [Pt b1] S0 p0]) w1 [itI R_t109 [Pt b1] S497 p0, rowI v498 42 (encInt .u64) 1 s496.1, rowI v499 3 (encInt .i64) 1 s496.2.1] ∧ loop (tappetref14_LRU_forget_l1 p0 p1) n s496 = some o299) fu (fun a ha => ⟨(([] : List Int), ([] : List Int), 0), S0, (.slice none 0 0), (.slice none 0 0), ha.ag, hst.keep [0, 1, 2] rfl, ho300⟩) ?_
  rintro n494 a w1 ⟨s496, S497, v498, v499, ha, hst, hl495⟩
  rcases n494 with _ | n494
  ·exact (loop_zero hl495).elim
  refine CW.go ?_ ha
  obtain ⟨l500, a501, c502, rfl⟩ := hst.len 1 rfl
  obtain ⟨l503, a504, c505, rfl⟩ := hst.len 2 rfl
  refine CW.seq (CW.seq ?_)
  obtain ⟨v506, S507, v508, S509, v510, S511, hst⟩ := hst.openQ3 0 rfl rfl rfl rfl
  have hst := hst.toRow1 4 rfl
  have hst := hst.toRow1 5 rfl
  obtain ⟨b512, rfl⟩ := hst.fptr 3 rfl
  obtain ⟨l513, a514, c515, rfl⟩ := hst.len 4 rfl
  obtain ⟨l516, a517, c518, rfl⟩ := hst.len 5 rfl
  have hst : St _ _ _ [blkI b1 125 [Pt b512, .slice a514 (p0.Keys).length c515, .slice a517 (p0.When).length c518, I p0.Clock], _, _, _, _, _] := hst
  refine CW.region ?_
  refine pu 4 [(7, I s496.2.2), (10, .pointer (some ⟨b1, 1, none⟩))] ?_
  refine OW.ld rfl rfl rfl rfl (by kernel_rfl) (hst.blk 0 rfl rfl) ?_
  refine pu 2 [(13, .bool (decide (s496.2.2 < ((p0.Keys).length : Int))))] (nx ?_)
  refine br (decide (s496.2.2 < ((p0.Keys).length : Int))) hl495 (fun hl495 hc519 => ?_) (fun hl495 hc519 => ?_)
  ·refine CW.skip (QW.next (CW.seq (CW.block (rg ?_))))
   refine pu 3 [(18, .pointer (some ⟨b1, 1, none⟩))] ?_
   refine OW.ld rfl rfl rfl rfl (by kernel_rfl) (hst.blk 0 rfl rfl) ?_
   refine pu 1 [(20, I s496.2.2)] ?_
   obtain ⟨x526, hx527, hl495⟩ := bs hl495
   obtain ⟨g529, o530, c531, hv528⟩ := hst.rowv 4 rfl hx527
   refine OW.idx 42 1 rfl rfl rfl rfl hv528 rfl (idx_some hx527).1 (idx_some hx527).2.1 (by kernel_rfl) (by kernel_rfl) ?_
   refine OW.ld rfl rfl rfl rfl (by kernel_rfl) (hst.rowc 4 rfl (fun _ => rfl) hx527 hv528 0 _ rfl) ?_
   refine pu 2 [(24, .bool (x526 != p1))] (nx ?_)
   refine br ((x526 != p1)) hl495 (fun hl495 hc532 => ?_) (fun hl495 hc532 => ?_)
   ·refine rg ?_
    refine pu 4 [(25, .slice a501 (s496.1).length c502), (28, .pointer (some ⟨b1, 1, none⟩))] ?_
    refine OW.ld rfl rfl rfl rfl (by kernel_rfl) (hst.blk 0 rfl rfl) ?_
    refine pu 1 [(30, I s496.2.2)] ?_
    obtain ⟨g547, o548, c549, hv546⟩ := hst.rowv 4 rfl hx527
    refine OW.idx 42 1 rfl rfl rfl rfl hv546 rfl (idx_some hx527).1 (idx_some hx527).2.1 (by kernel_rfl) (by kernel_rfl) ?_
    refine OW.ld rfl rfl rfl rfl (by kernel_rfl) (hst.rowc 4 rfl (fun _ => rfl) hx527 hv546 0 _ rfl) ?_
    refine OW.row (α := Int) (e := 42) (enc := encInt .u64) (sz := 1) hst rfl rfl rfl [x526] rfl (fun _ => rfl) rfl rfl (fun _ => by kernel_rfl) ?_
    intro g550 w551 hst
    obtain ⟨u552, hr553, hl495⟩ := bs hl495
    refine OW.app hst 1 rfl (fun _ => rfl) (fun _ => rfl) rfl rfl rfl rfl rfl rfl (by kernel_rfl) el42 (hst.rd 6 rfl (fun _ => rfl) [] rfl (hst.len 6 rfl).1) (room_le hr553) ?_
    intro v554 w555 hst
    obtain ⟨l556, a557, c558, rfl⟩ := hst.len 1 rfl
    refine pu 1 [(4, .slice a557 ((s496.1 ++ [x526])).length c558)] (nx (CW.region ?_))
    refine pu 4 [(35, .slice a504 (s496.2.1).length c505), (38, .pointer (some ⟨b1, 2, none⟩))] ?_
    refine OW.ld rfl rfl rfl rfl (by kernel_rfl) (hst.blk 0 rfl rfl) ?_
    refine pu 1 [(40, I s496.2.2)] ?_
    obtain ⟨x574, hx575, hl495⟩ := bs hl495
    obtain ⟨g577, o578, c579, hv576⟩ := hst.rowv 5 rfl hx575
    refine OW.idx 3 1 rfl rfl rfl rfl hv576 rfl (idx_some hx575).1 (idx_some hx575).2.1 (by kernel_rfl) (by kernel_rfl) ?_
    refine OW.ld rfl rfl rfl rfl (by kernel_rfl) (hst.rowc 5 rfl (fun _ => rfl) hx575 hv576 0 _ rfl) ?_
    refine OW.row (α := Int) (e := 3) (enc := encInt .i64) (sz := 1) hst rfl rfl rfl [x574] rfl (fun _ => rfl) rfl rfl (fun _ => by kernel_rfl) ?_
    intro g580 w581 hst
    obtain ⟨u582, hr583, hl495⟩ := bs hl495
    refine OW.app hst 2 rfl (fun _ => rfl) (fun _ => rfl) rfl rfl rfl rfl rfl rfl (by kernel_rfl) el3 (hst.rd 7 rfl (fun _ => rfl) [] rfl (hst.len 7 rfl).1) (room_le hr583) ?_
    intro v584 w585 hst
    obtain ⟨l586, a587, c588, rfl⟩ := hst.len 2 rfl
    refine pu 1 [(5, .slice a587 ((s496.2.1 ++ [x574])).length c588)] (OW.nil rfl (QW.block_normal (QW.next (CW.region ?_))))
    refine pu 3 [(6, I (w64 (s496.2.2 + 1)))] (OW.nil rfl ?_)
    have hst := hst.toIt 4 rfl (fun _ => rfl) (by decide)
    have hst := hst.toIt 5 rfl (fun _ => rfl) (by decide)
    obtain ⟨S589, hst⟩ := hst.shutP3 R_t125 rfl 0 3 4 5 [1, 2, 6, 7] rfl rfl rfl rfl rfl p0 rfl rfl
    exact QW.meet (fun a ha => ⟨n494, Nat.lt_succ_self _, ((s496.1 ++ [x526]), (s496.2.1 ++ [x574]), w64 (s496.2.2 + 1)), S589, (.slice a557 ((s496.1 ++ [x526])).length c558), (.slice a587 ((s496.2.1 ++ [x574])).length c588), ha.ag, hst.keep [4, 0, 1] rfl, hl495⟩)
   refine CW.skip (QW.block_normal (QW.next (CW.region ?_)))
   refine pu 3 [(6, I (w64 (s496.2.2 + 1)))] (OW.nil rfl ?_)
   have hst := hst.toIt 4 rfl (fun _ => rfl) (by decide)
   have hst := hst.toIt 5 rfl (fun _ => rfl) (by decide)
   obtain ⟨S592, hst⟩ := hst.shutP3 R_t125 rfl 0 3 4 5 [1, 2] rfl rfl rfl rfl rfl p0 rfl rfl
   exact QW.meet (fun a ha => ⟨n494, Nat.lt_succ_self _, (s496.1, s496.2.1, w64 (s496.2.2 + 1)), S592, (.slice a501 (s496.1).length c502), (.slice a504 (s496.2.1).length c505), ha.ag, hst.keep [2, 0, 1] rfl, hl495⟩)
  refine CW.exit (QW.then_exit (QW.then_exit ?_))
  refine QW.block_here ?_
  have hst := hst.toIt 4 rfl (fun _ => rfl) (by decide)
  have hst := hst.toIt 5 rfl (fun _ => rfl) (by decide)
  obtain ⟨S595, hst⟩ := hst.shutP3 R_t125 rfl 0 3 4 5 [1, 2] rfl rfl rfl rfl rfl p0 rfl rfl
  obtain rfl := inj hl495
  exact QW.meet (fun a ha => ⟨S595, (.slice a501 (s496.1).length c502), (.slice a504 (s496.2.1).length c505), ha.ag, hst.keep [2, 0, 1] rfl⟩)
 rintro a w1 ⟨S296, v297, v298, ha, hst⟩
 refine CW.go ?_ ha
 obtain ⟨l598, a599, c600, rfl⟩ := hst.len 1 rfl
 obtain ⟨l601, a602, c603, rfl⟩ := hst.len 2 rfl
 refine CW.seq ?_
 obtain ⟨v604, S605, v606, S607, v608, S609, hst⟩ := hst.openQ3 0 rfl rfl rfl rfl
 have hst := hst.toRow1 4 rfl
 have hst := hst.toRow1 5 rfl
 obtain ⟨b610, rfl⟩ := hst.fptr 3 rfl
 obtain ⟨l611, a612, c613, rfl⟩ := hst.len 4 rfl
 obtain ⟨l614, a615, c616, rfl⟩ := hst.len 5 rfl
 have hst : St _ _ _ [blkI b1 125 [Pt b610, .slice a612 (p0.Keys).length c613, .slice a615 (p0.When).length c616, I p0.Clock], _, _, _, _, _] := hst
 refine CW.region ?_
 refine pu 4 [(46, .slice a599 (o299.1).length c600), (48, .pointer (some ⟨b1, 1, none⟩))] ?_
 refine OW.stB hst 0 rfl rfl rfl rfl rfl (by kernel_rfl) rfl rfl [Pt b610, .slice a599 (o299.1).length c600, .slice a615 (p0.When).length c616, I p0.Clock] rfl ?_
 intro w618 hst
 refine nx (CW.region ?_)
 refine pu 4 [(50, .slice a602 (o299.2).length c603), (52, .pointer (some ⟨b1, 2, none⟩))] ?_
 refine OW.stB hst 0 rfl rfl rfl rfl rfl (by kernel_rfl) rfl rfl [Pt b610, .slice a599 (o299.1).length c600, .slice a602 (o299.2).length c603, I p0.Clock] rfl ?_
 intro w620 hst
 refine OW.nil rfl ?_
 have hst := hst.toIt 1 rfl (fun _ => rfl) (by decide)
 have hst := hst.toIt 2 rfl (fun _ => rfl) (by decide)
 obtain ⟨S621, hst⟩ := hst.shutP3 R_t125 rfl 0 3 1 2 [4, 5] rfl rfl rfl rfl rfl (tappetref14_LRU.mk p0.B o299.1 o299.2 p0.Clock) rfl rfl
 obtain rfl := inj hF
 refine QW.end0 rfl ?_
 exact ⟨S621, rfl, hst.keep [2] rfl⟩
end Go.Proofs.Ytpchniebplpboaa

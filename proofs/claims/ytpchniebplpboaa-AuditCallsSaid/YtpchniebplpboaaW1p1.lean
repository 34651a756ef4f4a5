/- Written by a program (wip/gen): the walks: each Go function returns what its plain function computes. -/
import Derived.Test.YtpchniebplpboaaProg
import Derived.Test.YtpchniebplpboaaF1
import Derived.Test.YtpchniebplpboaaSq
import Derived.Test.YtpchniebplpboaaPart
import Derived.Test.YtpchniebplpboaaO1
set_option linter.unusedSimpArgs false
namespace Go.Proofs.Ytpchniebplpboaa
open Go.Sx
set_option linter.unusedVariables false
set_option maxRecDepth 10000
set_option maxHeartbeats 4000000
theorem el103 : Elem Try.prog 103 1 16 := Elem.of (i := Try.t103) (by kernel_rfl) (by kernel_rfl) (by kernel_rfl) (by kernel_rfl) (by kernel_rfl) (by decide) (by decide)
theorem el73 : Elem Try.prog 73 1 8 := Elem.of (i := Try.t73) (by kernel_rfl) (by kernel_rfl) (by kernel_rfl) (by kernel_rfl) (by kernel_rfl) (by decide) (by decide)
theorem el129 : Elem Try.prog 129 2 16 := Elem.of (i := Try.t129) (by kernel_rfl) (by kernel_rfl) (by kernel_rfl) (by kernel_rfl) (by kernel_rfl) (by decide) (by decide)
theorem el42 : Elem Try.prog 42 1 8 := Elem.of (i := Try.t42) (by kernel_rfl) (by kernel_rfl) (by kernel_rfl) (by kernel_rfl) (by kernel_rfl) (by decide) (by decide)
theorem el3 : Elem Try.prog 3 1 8 := Elem.of (i := Try.t3) (by kernel_rfl) (by kernel_rfl) (by kernel_rfl) (by kernel_rfl) (by kernel_rfl) (by decide) (by decide)
theorem el48 : Elem Try.prog 48 22 176 := Elem.of (i := Try.t48) (by kernel_rfl) (by kernel_rfl) (by kernel_rfl) (by kernel_rfl) (by kernel_rfl) (by decide) (by decide)
theorem lru_LRU_drop_1_ok (w : World) (p0 : Int) (c1 : Nat) (p1 : Int) (r : Bool) (hF : lru_LRU_drop_1 p0 p1 = some r)
    (hst : St w (fp []) w []) (hc1 : RdB w (fp []) c1 [U p1]) :
    Calls Try.prog 94 [U p0, Pt c1].toArray w (fun e w' => e = .returned (.bool r) ∧ St w (fp []) w' []) := by
 refine CW.start (N := 7) Try.func94 rfl rfl rfl (rg ?_)
 refine pu 1 [] (nx (rg ?_))
 refine pu 1 [(4, U p0)] ?_
 refine OW.ld rfl rfl rfl rfl (by kernel_rfl) (hc1.cell hst 0 rfl) ?_
 refine pu 2 [(3, .bool (p0 == p1))] (nx (CW.ret ?_))
 obtain rfl := inj hF
 refine QW.ret1 rfl rfl ?_
 exact ⟨rfl, hst.keep [] rfl⟩
theorem tappetlaw27_one_ok (w : World)  (r : api_Config) (hF : tappetlaw27_one  = some r)
    (hst : St w (fp []) w []) :
    Calls Try.prog 17 [].toArray w (fun e w' => ∃ (x0_0 : Value), e = .returned (.agg [I r.Workers, I r.Shards, I r.Hooks, I r.Ring, x0_0].toArray) ∧ St w (fp []) w' [rowI x0_0 61 enc_api_MapDef 2 r.Maps]) := by
 refine CW.start (N := 4) Try.func17 rfl rfl rfl (rg ?_)
 refine OW.alloc hst rfl rfl rfl [I 0, I 0, I 0, I 0, .slice none 0 0] (by kernel_rfl) ?_
 intro b3 w4 hst
 refine nx (rg ?_)
 refine pu 1 [(1, .agg [I 0, I 2].toArray)] ?_
 refine OW.row (α := api_MapDef) (e := 61) (enc := enc_api_MapDef) (sz := 2) hst rfl rfl rfl [(api_MapDef.mk 0 2)] rfl (fun _ => rfl) rfl rfl (fun _ => by kernel_rfl) ?_
 intro g8 w9 hst
 refine pu 1 [(3, .agg [I 0, I 1, I 0, I 1, .slice (some ⟨g8, 0, none⟩) 1 1].toArray)] ?_
 refine OW.stB hst 0 rfl rfl rfl rfl rfl (by kernel_rfl) rfl rfl [I 0, I 1, I 0, I 1, .slice (some ⟨g8, 0, none⟩) 1 1] rfl ?_
 intro w10 hst
 refine nx (CW.ret ?_)
 obtain rfl := inj hF
 refine QW.ret_c rfl rfl (run_loadN (cs := [I 0, I 1, I 0, I 1, .slice (some ⟨g8, 0, none⟩) 1 1]) (by kernel_rfl) (by kernel_rfl) (hst.blkN 0 rfl 0 5)) ?_
 exact ⟨(.slice (some ⟨g8, 0, none⟩) 1 1), rfl, hst.keep [1] rfl⟩
theorem book_New_ok (w : World) (p0 : Int) (r : (Option book_Book) × Int) (hF : book_New p0 = some r)
    (hst : St w (fp []) w []) :
    Calls Try.prog 38 [I p0].toArray w (fun e w' => (∃ (k0 : book_Book) (y0 : Value) (z0 : List Nat), r.1 = some k0 ∧ e = .returned (.tuple #[y0, I r.2]) ∧ St w (fp []) w' [itI R_t114 [y0] z0 k0]) ∨ (r.1 = none ∧ e = .returned (.tuple #[.pointer none, I r.2]) ∧ St w (fp []) w' [])) := by
 refine CW.start (N := 13) Try.func38 rfl rfl rfl (rg ?_)
 refine pu 2 [] (nx (CW.seq (CW.seq ?_)))
 refine CW.cutK (fun a w1 => Rep 13 [(0, I p0), (9, .bool (decide (p0 < 1) || decide (p0 > 16)))] a ∧ St w (fp []) w1 []) ?_ ?_
 ·refine CW.region ?_
  refine pu 3 [(6, .bool (decide (p0 < 1)))] ?_
  refine OW.split 6 rfl (fun hc1 => ?_) (fun hc1 => ?_)
  ·refine pu 3 [(9, .bool true)] (OW.nil rfl ?_)
   refine QW.say 9 (v := .bool (decide (p0 < 1) || decide (p0 > 16))) rfl (by first | (rw [hc1]; done) | (rw [hc1]; rfl) | simp [hc1]) ?_
   exact QW.meet (fun a ha => ⟨ha.ag, hst.keep [] rfl⟩)
  refine pu 3 [(9, .bool (decide (p0 > 16)))] (OW.nil rfl ?_)
  refine QW.say 9 (v := .bool (decide (p0 < 1) || decide (p0 > 16))) rfl (by first | (rw [hc1]; done) | (rw [hc1]; rfl) | simp [hc1]) ?_
  exact QW.meet (fun a ha => ⟨ha.ag, hst.keep [] rfl⟩)
 rintro a w1 ⟨ha, hst⟩
 refine CW.go ?_ ha
 refine br ((decide (p0 < 1) || decide (p0 > 16))) hF (fun hF hc2 => ?_) (fun hF hc2 => ?_)
 ·refine rg ?_
  refine pu 2 [(2, .pointer none), (3, I 2)] (nx (CW.ret (QW.then_ret ?_)))
  obtain rfl := inj hF
  refine QW.ret2 rfl rfl rfl ?_
  exact .inr ⟨rfl, rfl, hst.keep [] rfl⟩
 refine CW.skip (QW.next (rg ?_))
 refine pu 2 [(11, .agg [I p0, .slice none 0 0].toArray)] ?_
 refine OW.box hst rfl rfl rfl rfl [I p0, .slice none 0 0] rfl ?_
 intro b5 w6 hst
 refine pu 2 [(2, Pt b5), (3, I 0)] (nx (CW.ret ?_))
 have hst := hst.nilRow api_Pair 129 enc_api_Pair 2
 have hst := hst.toIt 1 rfl (fun _ => rfl) (by decide)
 obtain ⟨S7, hst⟩ := hst.shutP1 R_t131 rfl 0 1 [] rfl rfl rfl (book_Book.mk p0 ([] : List api_Pair)) rfl rfl
 obtain rfl := inj hF
 refine QW.ret2 rfl rfl rfl ?_
 exact .inl ⟨_, (Pt b5), S7, rfl, rfl, hst.keep [0] rfl⟩
theorem lru_New_ok (w : World) (p0 : Int) (r : (Option lru_LRU) × Int) (hF : lru_New p0 = some r)
    (hst : St w (fp []) w []) :
    Calls Try.prog 39 [I p0].toArray w (fun e w' => (∃ (k0 : lru_LRU) (y0 : Value) (z0 : List Nat), r.1 = some k0 ∧ e = .returned (.tuple #[y0, I r.2]) ∧ St w (fp []) w' [itI R_t117 [y0] z0 k0]) ∨ (r.1 = none ∧ e = .returned (.tuple #[.pointer none, I r.2]) ∧ St w (fp []) w' [])) := by
 refine CW.start (N := 17) Try.func39 rfl rfl rfl (rg ?_)
 refine pu 2 [] (nx (rg ?_))
 refine pu 1 [(7, I p0)] ?_
 obtain ⟨r11, hr12, hF⟩ := bs hF
 refine OW.fn rfl rfl rfl rfl (by kernel_rfl) (book_New_ok _ p0 r11 hr12 (hst.part [] rfl)) ?_
 rintro e w13 (⟨k15, v17, S18, he16, rfl, hst14⟩ | ⟨he19, rfl, hst14⟩)
 ·have hF := ocase_some hF he16
  refine ⟨_, rfl, ?_⟩
  have hst := hst.join (idx := []) (rest := []) rfl hst14
  obtain ⟨b20, rfl⟩ := hst.fptr 0 rfl
  refine pu 5 [(4, Pt b20), (5, I r11.2)] (nx (CW.seq (rg ?_)))
  refine pu 2 [(12, .bool (r11.2 != 0))] (nx ?_)
  refine br ((r11.2 != 0)) hF (fun hF hc21 => ?_) (fun hF hc21 => ?_)
  ·refine rg ?_
   refine pu 3 [(2, .pointer none), (3, I r11.2)] (nx (CW.ret (QW.then_ret ?_)))
   obtain rfl := inj hF
   refine QW.ret2 rfl rfl rfl ?_
   exact .inr ⟨rfl, rfl, hst.keep [] rfl⟩
  refine CW.skip (QW.next (rg ?_))
  refine pu 2 [(15, .agg [Pt b20, .slice none 0 0].toArray)] ?_
  refine OW.box hst rfl rfl rfl rfl [Pt b20, .slice none 0 0] rfl ?_
  intro b24 w25 hst
  refine pu 2 [(2, Pt b24), (3, I 0)] (nx (CW.ret ?_))
  have hst := hst.nilRow Int 42 (encInt .u64) 1
  have hst := hst.toIt 2 rfl (fun _ => rfl) (by decide)
  obtain ⟨S26, hst⟩ := hst.shutP2 R_t133 rfl 1 0 2 [] rfl rfl rfl rfl (lru_LRU.mk k15 ([] : List Int)) rfl rfl
  obtain rfl := inj hF
  refine QW.ret2 rfl rfl rfl ?_
  exact .inl ⟨_, (Pt b24), S26, rfl, rfl, hst.keep [0] rfl⟩
 have hF := ocase_none hF he19
 refine ⟨_, rfl, ?_⟩
 have hst := hst.join (idx := []) (rest := []) rfl hst14
 refine pu 5 [(4, .pointer none), (5, I r11.2)] (nx (CW.seq (rg ?_)))
 refine pu 2 [(12, .bool (r11.2 != 0))] (nx ?_)
 refine br ((r11.2 != 0)) hF (fun hF hc27 => ?_) (fun hF hc27 => ?_)
 ·refine rg ?_
  refine pu 3 [(2, .pointer none), (3, I r11.2)] (nx (CW.ret (QW.then_ret ?_)))
  obtain rfl := inj hF
  refine QW.ret2 rfl rfl rfl ?_
  exact .inr ⟨rfl, rfl, hst.keep [] rfl⟩
 refine CW.skip (QW.next (rg ?_))
 refine pu 2 [(15, .agg [.pointer none, .slice none 0 0].toArray)] ?_
 refine OW.box hst rfl rfl rfl rfl [.pointer none, .slice none 0 0] rfl ?_
 intro b30 w31 hst
 refine pu 2 [(2, Pt b30), (3, I 0)] (nx (CW.ret ?_))
 cases hF
theorem cmap_Make_ok (w : World) (p0 : api_MapDef) (r : (Option I_cmap_Shard) × Int) (hF : cmap_Make p0 = some r)
    (hst : St w (fp []) w []) :
    Calls Try.prog 33 [.agg [I p0.Kind, I p0.Cap].toArray].toArray w (fun e w' => (∃ (k0 : I_cmap_Shard) (y0 : Value) (z0 : List Nat), r.1 = some k0 ∧ e = .returned (.tuple #[y0, I r.2]) ∧ St w (fp []) w' [itI R_t103 [y0] z0 k0]) ∨ (r.1 = none ∧ e = .returned (.tuple #[.nilIface, I r.2]) ∧ St w (fp []) w' [])) := by
 refine CW.start (N := 36) Try.func33 rfl rfl rfl (rg ?_)
 refine OW.box hst rfl rfl rfl rfl [I p0.Kind, I p0.Cap] rfl ?_
 intro b3 w4 hst
 refine pu 2 [] (nx (CW.seq (rg ?_)))
 refine pu 1 [(8, Pt b3)] ?_
 refine OW.ld rfl rfl rfl rfl (by kernel_rfl) (hst.blk 0 rfl rfl) (nx (CW.block (rg ?_)))
 refine pu 2 [(10, .bool (p0.Kind == 0))] (nx ?_)
 refine br ((p0.Kind == 0)) hF (fun hF hc5 => ?_) (fun hF hc5 => ?_)
 ·refine rg ?_
  refine pu 1 [(13, .pointer (some ⟨b3, 1, none⟩))] ?_
  refine OW.ld rfl rfl rfl rfl (by kernel_rfl) (hst.blk 0 rfl rfl) ?_
  obtain ⟨r16, hr17, hF⟩ := bs hF
  refine OW.fn rfl rfl rfl rfl (by kernel_rfl) (book_New_ok _ p0.Cap r16 hr17 (hst.part [] rfl)) ?_
  rintro e w18 (⟨k20, v22, S23, he21, rfl, hst19⟩ | ⟨he24, rfl, hst19⟩)
  ·have hF := ocase_some hF he21
   refine ⟨_, rfl, ?_⟩
   have hst := hst.join (idx := []) (rest := [0]) rfl hst19
   obtain ⟨b25, rfl⟩ := hst.fptr 0 rfl
   refine pu 5 [(4, Pt b25), (5, I r16.2)] (nx (rg ?_))
   refine pu 2 [(19, .bool (r16.2 == 0))] (nx ?_)
   refine br ((r16.2 == 0)) hF (fun hF hc26 => ?_) (fun hF hc26 => ?_)
   ·refine rg ?_
    refine pu 1 [(20, Pt b25)] ?_
    have hst := hst.tag 114 0 rfl
    have hst := hst.ofL (tagP 117 R_t117) rfl rfl 0 rfl
    refine OW.op (v := .iface 114 (Pt b25)) rfl rfl rfl rfl (fun a ha => mkif_run rfl rfl (by kernel_rfl) a _ ha) ?_
    refine pu 3 [(2, .iface 114 (Pt b25)), (3, I r16.2)] (nx (CW.ret (QW.block_ret (QW.then_ret ?_))))
    obtain rfl := inj hF
    refine QW.ret2 rfl rfl rfl ?_
    exact .inl ⟨_, (.iface 114 (Pt b25)), S23, rfl, rfl, hst.keep [0] rfl⟩
   refine CW.skip (QW.block_normal (QW.next (rg ?_)))
   refine pu 2 [(2, .nilIface), (3, I 2)] (nx (CW.ret ?_))
   obtain rfl := inj hF
   refine QW.ret2 rfl rfl rfl ?_
   exact .inr ⟨rfl, rfl, hst.keep [] rfl⟩
  have hF := ocase_none hF he24
  refine ⟨_, rfl, ?_⟩
  have hst := hst.join (idx := []) (rest := [0]) rfl hst19
  refine pu 5 [(4, .pointer none), (5, I r16.2)] (nx (rg ?_))
  refine pu 2 [(19, .bool (r16.2 == 0))] (nx ?_)
  refine br ((r16.2 == 0)) hF (fun hF hc27 => ?_) (fun hF hc27 => ?_)
  ·refine rg ?_
   refine pu 1 [(20, .pointer none)] ?_
   cases hF
  refine CW.skip (QW.block_normal (QW.next (rg ?_)))
  refine pu 2 [(2, .nilIface), (3, I 2)] (nx (CW.ret ?_))
  obtain rfl := inj hF
  refine QW.ret2 rfl rfl rfl ?_
  exact .inr ⟨rfl, rfl, hst.keep [] rfl⟩
 refine rg ?_
 refine pu 2 [(23, .bool (p0.Kind == 1))] (nx ?_)
 refine br ((p0.Kind == 1)) hF (fun hF hc28 => ?_) (fun hF hc28 => ?_)
 ·refine rg ?_
  refine pu 1 [(26, .pointer (some ⟨b3, 1, none⟩))] ?_
  refine OW.ld rfl rfl rfl rfl (by kernel_rfl) (hst.blk 0 rfl rfl) ?_
  obtain ⟨r39, hr40, hF⟩ := bs hF
  refine OW.fn rfl rfl rfl rfl (by kernel_rfl) (lru_New_ok _ p0.Cap r39 hr40 (hst.part [] rfl)) ?_
  rintro e w41 (⟨k43, v45, S46, he44, rfl, hst42⟩ | ⟨he47, rfl, hst42⟩)
  ·have hF := ocase_some hF he44
   refine ⟨_, rfl, ?_⟩
   have hst := hst.join (idx := []) (rest := [0]) rfl hst42
   obtain ⟨b48, rfl⟩ := hst.fptr 0 rfl
   refine pu 5 [(6, Pt b48), (7, I r39.2)] (nx (rg ?_))
   refine pu 2 [(32, .bool (r39.2 == 0))] (nx ?_)
   refine br ((r39.2 == 0)) hF (fun hF hc49 => ?_) (fun hF hc49 => ?_)
   ·refine rg ?_
    refine pu 1 [(33, Pt b48)] ?_
    have hst := hst.tag 117 0 rfl
    have hst := hst.ofR (tagP 114 R_t114) rfl rfl 0 rfl
    refine OW.op (v := .iface 117 (Pt b48)) rfl rfl rfl rfl (fun a ha => mkif_run rfl rfl (by kernel_rfl) a _ ha) ?_
    refine pu 3 [(2, .iface 117 (Pt b48)), (3, I r39.2)] (nx (CW.ret (QW.block_ret (QW.then_ret ?_))))
    obtain rfl := inj hF
    refine QW.ret2 rfl rfl rfl ?_
    exact .inl ⟨_, (.iface 117 (Pt b48)), S46, rfl, rfl, hst.keep [0] rfl⟩
   refine CW.skip (QW.block_normal (QW.next (rg ?_)))
   refine pu 2 [(2, .nilIface), (3, I 2)] (nx (CW.ret ?_))
   obtain rfl := inj hF
   refine QW.ret2 rfl rfl rfl ?_
   exact .inr ⟨rfl, rfl, hst.keep [] rfl⟩
  have hF := ocase_none hF he47
  refine ⟨_, rfl, ?_⟩
  have hst := hst.join (idx := []) (rest := [0]) rfl hst42
  refine pu 5 [(6, .pointer none), (7, I r39.2)] (nx (rg ?_))
  refine pu 2 [(32, .bool (r39.2 == 0))] (nx ?_)
  refine br ((r39.2 == 0)) hF (fun hF hc50 => ?_) (fun hF hc50 => ?_)
  ·refine rg ?_
   refine pu 1 [(33, .pointer none)] ?_
   cases hF
  refine CW.skip (QW.block_normal (QW.next (rg ?_)))
  refine pu 2 [(2, .nilIface), (3, I 2)] (nx (CW.ret ?_))
  obtain rfl := inj hF
  refine QW.ret2 rfl rfl rfl ?_
  exact .inr ⟨rfl, rfl, hst.keep [] rfl⟩
 refine CW.skip (QW.block_normal (QW.next (rg ?_)))
 refine pu 2 [(2, .nilIface), (3, I 2)] (nx (CW.ret ?_))
 obtain rfl := inj hF
 refine QW.ret2 rfl rfl rfl ?_
 exact .inr ⟨rfl, rfl, hst.keep [] rfl⟩
theorem cmap_New_ok (w : World) (fu : Nat) (p0 : api_MapDef) (p1 : Int) (r : (Option cmap_Map) × Int) (hF : cmap_New fu p0 p1 = some r)
    (hst : St w (fp []) w []) :
    Calls Try.prog 28 [.agg [I p0.Kind, I p0.Cap].toArray, I p1].toArray w (fun e w' => (∃ (k0 : cmap_Map) (y0 : Value) (z0 : List Nat), r.1 = some k0 ∧ e = .returned (.tuple #[y0, I r.2]) ∧ St w (fp []) w' [itI R_t73 [y0] z0 k0]) ∨ (r.1 = none ∧ e = .returned (.tuple #[.pointer none, I r.2]) ∧ St w (fp []) w' [])) := by
 refine CW.start (N := 41) Try.func28 rfl rfl rfl (rg ?_)
 refine OW.box hst rfl rfl rfl rfl [I p0.Kind, I p0.Cap] rfl ?_
 intro b3 w4 hst
 refine pu 2 [] (nx (CW.seq (CW.seq ?_)))
 refine CW.cutK (fun a w1 => Rep 41 [(1, I p1), (2, Pt b3), (14, .bool (decide (p1 < 1) || decide (p1 > 4)))] a ∧ St w (fp []) w1 [blkI b3 61 [I p0.Kind, I p0.Cap]]) ?_ ?_
 ·refine CW.region ?_
  refine pu 3 [(11, .bool (decide (p1 < 1)))] ?_
  refine OW.split 11 rfl (fun hc5 => ?_) (fun hc5 => ?_)
  ·refine pu 3 [(14, .bool true)] (OW.nil rfl ?_)
   refine QW.say 14 (v := .bool (decide (p1 < 1) || decide (p1 > 4))) rfl (by first | (rw [hc5]; done) | (rw [hc5]; rfl) | simp [hc5]) ?_
   exact QW.meet (fun a ha => ⟨ha.ag, hst.keep [0] rfl⟩)
  refine pu 3 [(14, .bool (decide (p1 > 4)))] (OW.nil rfl ?_)
  refine QW.say 14 (v := .bool (decide (p1 < 1) || decide (p1 > 4))) rfl (by first | (rw [hc5]; done) | (rw [hc5]; rfl) | simp [hc5]) ?_
  exact QW.meet (fun a ha => ⟨ha.ag, hst.keep [0] rfl⟩)
 rintro a w1 ⟨ha, hst⟩
 refine CW.go ?_ ha
 refine br ((decide (p1 < 1) || decide (p1 > 4))) hF (fun hF hc6 => ?_) (fun hF hc6 => ?_)
 ·refine rg ?_
  refine pu 2 [(4, .pointer none), (5, I 2)] (nx (CW.ret (QW.then_ret ?_)))
  obtain rfl := inj hF
  refine QW.ret2 rfl rfl rfl ?_
  exact .inr ⟨rfl, rfl, hst.keep [] rfl⟩
 refine CW.skip (QW.next (rg ?_))
 refine OW.ldN (cs := [I p0.Kind, I p0.Cap]) rfl rfl rfl rfl (by kernel_rfl) (by kernel_rfl) (hst.blkN 0 rfl 0 2) ?_
 refine pu 1 [(16, .agg [I p0.Kind, I p0.Cap, .slice none 0 0].toArray)] ?_
 refine OW.box hst rfl rfl rfl rfl [I p0.Kind, I p0.Cap, .slice none 0 0] rfl ?_
 intro b9 w10 hst
 refine pu 1 [(6, Pt b9)] (nx (CW.seq (rg ?_)))
 refine pu 2 [(18, I p1), (19, I 0)] (nx ?_)
 obtain ⟨o200, ho201, hF⟩ := bs hF
 refine CW.cutK (fun a w1 => ∃ (t202 : cmap_Map) (S199 : List Nat), o200 = .inl t202 ∧ Rep 41 [(6, Pt b9)] a ∧ St w (fp []) w1 [itI R_t73 [Pt b9] S199 t202]) ?_ ?_
 ·refine CW.block ?_
  have hst := hst.nNil 103 R_t103 none
  have hst := hst.ofN 2 rfl (by decide)
  obtain ⟨S203, hst⟩ := hst.shutP1 R_t101 rfl 1 2 [0] rfl rfl rfl (cmap_Map.mk p0 ([] : List I_cmap_Shard)) rfl rfl
  refine CW.loop (fun n a w1 => ∃ (s329 : cmap_Map × Int) (S330 : List Nat), Rep 41 [(2, Pt b3), (6, Pt b9), (18, I p1), (19, I s329.2)] a ∧ St w (fp []) w1 [blkI b3 61 [I p0.Kind, I p0.Cap], itI R_t73 [Pt b9] S330 s329.1] ∧ loop (cmap_New_l1 p0 p1) n s329 = some o200) fu (fun a ha => ⟨((cmap_Map.mk p0 ([] : List I_cmap_Shard)), 0), S203, ha.ag, hst.keep [0, 1] rfl, ho201⟩) ?_
  rintro n327 a w1 ⟨s329, S330, ha, hst, hl328⟩
  rcases n327 with _ | n327
  ·exact (loop_zero hl328).elim
  refine CW.go ?_ ha
  refine rg ?_
  refine pu 1 [(20, .bool (decide (s329.2 < p1)))] (nx (CW.seq ?_))
  refine br (decide (s329.2 < p1)) hl328 (fun hl328 hc331 => ?_) (fun hl328 hc331 => ?_)
  ·refine CW.skip (QW.next (CW.seq (CW.block (rg ?_))))
   refine OW.ldN (cs := [I p0.Kind, I p0.Cap]) rfl rfl rfl rfl (by kernel_rfl) (by kernel_rfl) (hst.blkN 0 rfl 0 2) ?_
   obtain ⟨r341, hr342, hl328⟩ := bs hl328
   refine OW.fn rfl rfl rfl rfl (by kernel_rfl) (cmap_Make_ok _ p0 r341 hr342 (hst.part [] rfl)) ?_
   rintro e w343 (⟨k345, v347, S348, he346, rfl, hst344⟩ | ⟨he349, rfl, hst344⟩)
   ·have hl328 := ocase_some hl328 he346
    refine ⟨_, rfl, ?_⟩
    have hst := hst.join (idx := []) (rest := [0, 1]) rfl hst344
    refine pu 5 [(7, v347), (8, I r341.2)] (nx (CW.seq (rg ?_)))
    refine pu 2 [(27, .bool (r341.2 != 0))] (nx ?_)
    refine br ((r341.2 != 0)) hl328 (fun hl328 hc350 => ?_) (fun hl328 hc350 => ?_)
    ·refine rg ?_
     refine pu 3 [(4, .pointer none), (5, I r341.2)] (nx (CW.ret (QW.then_ret (QW.block_ret (QW.then_ret (QW.then_ret (QW.block_ret (QW.then_ret ?_))))))))
     obtain rfl := inj hl328
     obtain rfl := inj hF
     refine QW.ret2 rfl rfl rfl ?_
     exact .inr ⟨rfl, rfl, hst.keep [] rfl⟩
    refine CW.skip (QW.next ?_)
    obtain ⟨v351, S352, hst⟩ := hst.openQ1 2 rfl rfl
    have hst := hst.toN1 3 rfl
    obtain ⟨l353, a354, c355, rfl⟩ := hst.nlen 3 rfl
    have hst : St _ _ _ [_, _, blkI b9 101 [I s329.1.def_.Kind, I s329.1.def_.Cap, .slice a354 (s329.1.shards).length c355], _] := hst
    refine CW.region ?_
    refine pu 4 [(29, Pt b9), (32, .pointer (some ⟨b9, 2, none⟩))] ?_
    refine OW.ld rfl rfl rfl rfl (by kernel_rfl) (hst.blk 2 rfl rfl) ?_
    refine pu 1 [(34, v347)] ?_
    obtain ⟨T370, u371, rfl⟩ := hst.ifcell 0 rfl (fun _ _ _ _ h => ifc_sum (fun _ _ _ _ h => ifc_tag h) (fun _ _ _ _ h => ifc_tag h) h)
    refine OW.row (α := List Value) (e := 103) (enc := fit 1) (sz := 1) hst rfl rfl rfl [[(.iface T370 u371)]] rfl (fun _ => fit_len _ _) rfl rfl (fun _ => by kernel_rfl) ?_
    intro g372 w373 hst
    have hst := hst.bchOne (R := R_t103) 0 rfl
    have hst := hst.keep [1, 2, 3, 0, 4] rfl
    have hst : St _ _ _ [_, _, _, bchI R_t103 [[(.iface T370 u371)]] _ [k345], _] := hst
    obtain ⟨S374, hst⟩ := hst.nOf 4 3 rfl rfl rfl rfl
    have hst := hst.keep [0, 1, 2, 4] rfl
    have hst : St _ _ _ [_, _, _, nI 103 R_t103 (.slice (some ⟨g372, 0, none⟩) 1 1) S374 ([k345]) none] := hst
    obtain ⟨u375, hr376, hl328⟩ := bs hl328
    refine OW.appN hst 2 3 rfl rfl rfl rfl rfl rfl rfl rfl rfl (by kernel_rfl) el103 (room_le hr376) (fun _ _ _ _ h => ones_sum (fun _ _ _ _ h => ones_tag h) (fun _ _ _ _ h => ones_tag h) h) ?_
    intro v377 S378 w379 hst
    have hst := hst.keep [0, 1, 2] rfl
    obtain ⟨l380, a381, c382, rfl⟩ := hst.nlen 2 rfl
    refine pu 2 [(38, .pointer (some ⟨b9, 2, none⟩))] ?_
    refine OW.stB hst 1 rfl rfl rfl rfl rfl (by kernel_rfl) rfl rfl [I s329.1.def_.Kind, I s329.1.def_.Cap, .slice a381 ((s329.1.shards ++ [k345])).length c382] rfl ?_
    intro w383 hst
    refine OW.nil rfl (QW.block_normal (QW.next (CW.region ?_)))
    refine pu 2 [(19, I (w64 (s329.2 + 1)))] (OW.nil rfl ?_)
    have hst := hst.ofN 2 rfl (by decide)
    obtain ⟨S384, hst⟩ := hst.shutP1 R_t101 rfl 1 2 [0] rfl rfl rfl (cmap_Map.mk s329.1.def_ (s329.1.shards ++ [k345])) rfl rfl
    exact QW.meet (fun a ha => ⟨n327, Nat.lt_succ_self _, ((cmap_Map.mk s329.1.def_ (s329.1.shards ++ [k345])), w64 (s329.2 + 1)), S384, ha.ag, hst.keep [0, 1] rfl, hl328⟩)
   have hl328 := ocase_none hl328 he349
   refine ⟨_, rfl, ?_⟩
   have hst := hst.join (idx := []) (rest := [0, 1]) rfl hst344
   refine pu 5 [(7, .nilIface), (8, I r341.2)] (nx (CW.seq (rg ?_)))
   refine pu 2 [(27, .bool (r341.2 != 0))] (nx ?_)
   refine br ((r341.2 != 0)) hl328 (fun hl328 hc385 => ?_) (fun hl328 hc385 => ?_)
   ·refine rg ?_
    refine pu 3 [(4, .pointer none), (5, I r341.2)] (nx (CW.ret (QW.then_ret (QW.block_ret (QW.then_ret (QW.then_ret (QW.block_ret (QW.then_ret ?_))))))))
    obtain rfl := inj hl328
    obtain rfl := inj hF
    refine QW.ret2 rfl rfl rfl ?_
    exact .inr ⟨rfl, rfl, hst.keep [] rfl⟩
   refine CW.skip (QW.next ?_)
   obtain ⟨v386, S387, hst⟩ := hst.openQ1 1 rfl rfl
   have hst := hst.toN1 2 rfl
   obtain ⟨l388, a389, c390, rfl⟩ := hst.nlen 2 rfl
   have hst : St _ _ _ [_, blkI b9 101 [I s329.1.def_.Kind, I s329.1.def_.Cap, .slice a389 (s329.1.shards).length c390], _] := hst
   refine CW.region ?_
   refine pu 4 [(29, Pt b9), (32, .pointer (some ⟨b9, 2, none⟩))] ?_
   refine OW.ld rfl rfl rfl rfl (by kernel_rfl) (hst.blk 1 rfl rfl) ?_
   refine pu 1 [(34, .nilIface)] ?_
   cases hl328
  refine CW.exit (QW.then_exit (QW.then_exit ?_))
  refine QW.block_here ?_
  obtain rfl := inj hl328
  exact QW.meet (fun a ha => ⟨s329.1, S330, rfl, ha.ag, hst.keep [1] rfl⟩)
 rintro a w1 ⟨t202, S199, rfl, ha, hst⟩
 refine CW.go ?_ ha
 refine rg ?_
 refine pu 3 [(4, Pt b9), (5, I 0)] (nx (CW.ret ?_))
 obtain rfl := inj hF
 refine QW.ret2 rfl rfl rfl ?_
 exact .inl ⟨_, (Pt b9), S199, rfl, rfl, hst.keep [0] rfl⟩
theorem audit_newMaps_ok (w : World) (fu : Nat) (v0_0 : Value) (p0 : api_Config) (r : (List cmap_Map) × Int) (hF : audit_newMaps fu p0 = some r)
    (hst : St w (fp []) w []) (h0_0 : Rd w (fp []) v0_0 enc_api_MapDef 2 p0.Maps) :
    Calls Try.prog 18 [.agg [I p0.Workers, I p0.Shards, I p0.Hooks, I p0.Ring, v0_0].toArray].toArray w (fun e w' => ∃ (x0 : Value) (Sx0 : List Nat), e = .returned (.tuple #[x0, I r.2]) ∧ St w (fp []) w' [nI 73 R_t73 x0 Sx0 r.1 none]) := by
 refine CW.start (N := 46) Try.func18 rfl rfl rfl ?_
 obtain ⟨l1, a2, c3, rfl⟩ := h0_0.len
 refine rg ?_
 refine OW.box hst rfl rfl rfl rfl [I p0.Workers, I p0.Shards, I p0.Hooks, I p0.Ring, .slice a2 (p0.Maps).length c3] rfl ?_
 intro b6 w7 hst
 refine pu 2 [] (nx (CW.seq (CW.seq ?_)))
 refine CW.cutK (fun a w1 => Rep 46 [(1, Pt b6), (22, .bool ((decide (p0.Shards < 1) || decide (p0.Shards > 4)) || decide (((p0.Maps).length : Int) > 4)))] a ∧ St w (fp []) w1 [blkI b6 24 [I p0.Workers, I p0.Shards, I p0.Hooks, I p0.Ring, .slice a2 (p0.Maps).length c3]]) ?_ ?_
 ·refine CW.region ?_
  refine pu 1 [(9, .pointer (some ⟨b6, 1, none⟩))] ?_
  refine OW.ld rfl rfl rfl rfl (by kernel_rfl) (hst.blk 0 rfl rfl) ?_
  refine pu 2 [(12, .bool (decide (p0.Shards < 1)))] ?_
  refine OW.split 12 rfl (fun hc8 => ?_) (fun hc8 => ?_)
  ·refine pu 10 [(22, .bool true)] (OW.nil rfl ?_)
   refine QW.say 22 (v := .bool ((decide (p0.Shards < 1) || decide (p0.Shards > 4)) || decide (((p0.Maps).length : Int) > 4))) rfl (by first | (rw [hc8]; done) | (rw [hc8]; rfl) | simp [hc8]) ?_
   exact QW.meet (fun a ha => ⟨ha.ag, hst.keep [0] rfl⟩)
  refine pu 1 [(13, .pointer (some ⟨b6, 1, none⟩))] ?_
  refine OW.ld rfl rfl rfl rfl (by kernel_rfl) (hst.blk 0 rfl rfl) ?_
  refine pu 3 [(17, .bool (decide (p0.Shards > 4)))] ?_
  refine OW.split 17 rfl (fun hc9 => ?_) (fun hc9 => ?_)
  ·refine pu 5 [(22, .bool true)] (OW.nil rfl ?_)
   refine QW.say 22 (v := .bool ((decide (p0.Shards < 1) || decide (p0.Shards > 4)) || decide (((p0.Maps).length : Int) > 4))) rfl (by first | (rw [hc8, hc9]; done) | (rw [hc8, hc9]; rfl) | simp [hc8, hc9]) ?_
   exact QW.meet (fun a ha => ⟨ha.ag, hst.keep [0] rfl⟩)
  refine pu 1 [(18, .pointer (some ⟨b6, 4, none⟩))] ?_
  refine OW.ld rfl rfl rfl rfl (by kernel_rfl) (hst.blk 0 rfl rfl) ?_
  refine pu 3 [(22, .bool (decide (((p0.Maps).length : Int) > 4)))] (OW.nil rfl ?_)
  refine QW.say 22 (v := .bool ((decide (p0.Shards < 1) || decide (p0.Shards > 4)) || decide (((p0.Maps).length : Int) > 4))) rfl (by first | (rw [hc8, hc9]; done) | (rw [hc8, hc9]; rfl) | simp [hc8, hc9]) ?_
  exact QW.meet (fun a ha => ⟨ha.ag, hst.keep [0] rfl⟩)
 rintro a w1 ⟨ha, hst⟩
 refine CW.go ?_ ha
 refine br (((decide (p0.Shards < 1) || decide (p0.Shards > 4)) || decide (((p0.Maps).length : Int) > 4))) hF (fun hF hc10 => ?_) (fun hF hc10 => ?_)
 ·refine rg ?_
  refine pu 2 [(2, .slice none 0 0), (3, I 2)] (nx (CW.ret (QW.then_ret ?_)))
  have hst := hst.nNil 73 R_t73 none
  obtain rfl := inj hF
  refine QW.ret2 rfl rfl rfl ?_
  exact ⟨(.slice none 0 0), ([]), rfl, hst.keep [1] rfl⟩
 refine CW.skip (QW.next (rg ?_))
 refine pu 1 [(4, .slice none 0 0)] (nx (CW.seq (rg ?_)))
 refine pu 1 [(23, .pointer (some ⟨b6, 4, none⟩))] ?_
 refine OW.ld rfl rfl rfl rfl (by kernel_rfl) (hst.blk 0 rfl rfl) ?_
 refine pu 2 [(25, I ((p0.Maps).length : Int)), (26, I 0)] (nx ?_)
 obtain ⟨o225, ho226, hF⟩ := bs hF
 refine CW.cutK (fun a w1 => ∃ (t227 : (List cmap_Map)) (v223 : Value) (S224 : List Nat), o225 = .inl t227 ∧ Rep 46 [(4, v223)] a ∧ St w (fp []) w1 [nI 73 R_t73 v223 S224 t227 none]) ?_ ?_
 ·refine CW.block ?_
  have hst := hst.nNil 73 R_t73 none
  refine CW.loop (fun n a w1 => ∃ (i371 : Nat) (s368 : (List cmap_Map)) (v369 : Value) (S370 : List Nat), i371 + n = (p0.Maps).length ∧ Rep 46 [(1, Pt b6), (4, v369), (24, .slice a2 (p0.Maps).length c3), (25, I ((p0.Maps).length : Int)), (26, I (i371 : Int))] a ∧ St w (fp []) w1 [blkI b6 24 [I p0.Workers, I p0.Shards, I p0.Hooks, I p0.Ring, .slice a2 (p0.Maps).length c3], nI 73 R_t73 v369 S370 s368 none] ∧ forN (audit_newMaps_l1 fu p0) (fun (s368 : (List cmap_Map)) => (.inl s368)) n i371 s368 = some o225) (p0.Maps).length (fun a ha => ⟨0, ([] : List cmap_Map), (.slice none 0 0), ([]), Nat.zero_add _, ha.ag, hst.keep [0, 1] rfl, ho226⟩) ?_
  rintro n366 a w1 ⟨i371, s368, v369, S370, hi372, ha, hst, hl367⟩
  refine CW.go ?_ ha
  obtain ⟨l373, a374, c375, rfl⟩ := hst.nlen 1 rfl
  refine rg ?_
  refine pu 1 [(27, .bool (decide ((i371 : Int) < ((p0.Maps).length : Int))))] (nx (CW.seq ?_))
  rcases bft (decide ((i371 : Int) < ((p0.Maps).length : Int))) with hc376 | hc376
  ·rcases n366 with _ | n366
   ·exact (cnt0 hi372 hc376).elim
   refine CW.cond_t rfl hc376 (CW.skip (QW.next (CW.seq (CW.block (rg ?_)))))
   obtain ⟨x386, hx387, hl367⟩ := bs hl367
   obtain ⟨g389, o390, c391, hv388⟩ := h0_0.formv (fun _ => ⟨_, rfl⟩) hx387
   refine OW.idx 61 2 rfl rfl rfl rfl hv388 rfl (idx_some hx387).1 (idx_some hx387).2.1 (by kernel_rfl) (by kernel_rfl) ?_
   refine OW.ldN (cs := enc_api_MapDef x386) rfl rfl rfl rfl (by kernel_rfl) (by kernel_rfl) (h0_0.cellv hst hx387 hv388) ?_
   refine OW.alloc hst rfl rfl rfl [I 0, I 0] (by kernel_rfl) ?_
   intro b392 w393 hst
   refine OW.stB hst 2 rfl rfl rfl rfl rfl (by kernel_rfl) rfl rfl [I x386.Kind, I x386.Cap] rfl ?_
   intro w394 hst
   refine nx (rg ?_)
   refine OW.ldN (cs := [I x386.Kind, I x386.Cap]) rfl rfl rfl rfl (by kernel_rfl) (by kernel_rfl) (hst.blkN 2 rfl 0 2) ?_
   refine pu 1 [(32, .pointer (some ⟨b6, 1, none⟩))] ?_
   refine OW.ld rfl rfl rfl rfl (by kernel_rfl) (hst.blk 0 rfl rfl) ?_
   obtain ⟨r405, hr406, hl367⟩ := bs hl367
   refine OW.fn rfl rfl rfl rfl (by kernel_rfl) (cmap_New_ok _ fu x386 p0.Shards r405 hr406 (hst.part [] rfl)) ?_
   rintro e w407 (⟨k409, v411, S412, he410, rfl, hst408⟩ | ⟨he413, rfl, hst408⟩)
   ·have hl367 := ocase_some hl367 he410
    refine ⟨_, rfl, ?_⟩
    have hst := hst.join (idx := []) (rest := [0, 1, 2]) rfl hst408
    obtain ⟨b414, rfl⟩ := hst.fptr 0 rfl
    refine pu 5 [(7, Pt b414), (8, I r405.2)] (nx (CW.seq (rg ?_)))
    refine pu 2 [(38, .bool (r405.2 != 0))] (nx ?_)
    refine br ((r405.2 != 0)) hl367 (fun hl367 hc415 => ?_) (fun hl367 hc415 => ?_)
    ·refine rg ?_
     refine pu 3 [(2, .slice none 0 0), (3, I r405.2)] (nx (CW.ret (QW.then_ret (QW.block_ret (QW.then_ret (QW.then_ret (QW.block_ret (QW.then_ret ?_))))))))
     have hst := hst.nNil 73 R_t73 none
     obtain rfl := inj hl367
     obtain rfl := inj hF
     refine QW.ret2 rfl rfl rfl ?_
     exact ⟨(.slice none 0 0), ([]), rfl, hst.keep [4] rfl⟩
    refine CW.skip (QW.next (CW.region ?_))
    refine pu 2 [(40, .slice a374 (s368).length c375), (41, Pt b414)] ?_
    refine OW.row (α := List Value) (e := 73) (enc := fit 1) (sz := 1) hst rfl rfl rfl [[Pt b414]] rfl (fun _ => fit_len _ _) rfl rfl (fun _ => by kernel_rfl) ?_
    intro g427 w428 hst
    have hst := hst.bchOne (R := R_t73) 0 rfl
    have hst := hst.keep [1, 2, 3, 0, 4] rfl
    have hst : St _ _ _ [_, _, _, bchI R_t73 [[Pt b414]] _ [k409], _] := hst
    obtain ⟨S429, hst⟩ := hst.nOf 4 3 rfl rfl rfl rfl
    have hst := hst.keep [0, 1, 2, 4] rfl
    have hst : St _ _ _ [_, _, _, nI 73 R_t73 (.slice (some ⟨g427, 0, none⟩) 1 1) S429 ([k409]) none] := hst
    obtain ⟨u430, hr431, hl367⟩ := bs hl367
    refine OW.appN hst 1 3 rfl rfl rfl rfl rfl rfl rfl rfl rfl (by kernel_rfl) el73 (room_le hr431) (fun _ _ _ _ h => ones_ptr h) ?_
    intro v432 S433 w434 hst
    have hst := hst.keep [0, 1, 2] rfl
    obtain ⟨l435, a436, c437, rfl⟩ := hst.nlen 1 rfl
    refine pu 1 [(4, .slice a436 ((s368 ++ [k409])).length c437)] (OW.nil rfl (QW.block_normal (QW.next (CW.region ?_))))
    refine pu 2 [(26, I (w64 ((i371 : Int) + 1)))] (OW.nil rfl ?_)
    refine QW.say 26 rfl (congrArg (Value.int .i64) (w64_cnt hc376 l1)) ?_
    exact QW.meet (fun a ha => ⟨n366, Nat.lt_succ_self _, i371 + 1, (s368 ++ [k409]), (.slice a436 ((s368 ++ [k409])).length c437), S433, cnt_next hi372, ha.ag, hst.keep [0, 1] rfl, hl367⟩)
   have hl367 := ocase_none hl367 he413
   refine ⟨_, rfl, ?_⟩
   have hst := hst.join (idx := []) (rest := [0, 1, 2]) rfl hst408
   refine pu 5 [(7, .pointer none), (8, I r405.2)] (nx (CW.seq (rg ?_)))
   refine pu 2 [(38, .bool (r405.2 != 0))] (nx ?_)
   refine br ((r405.2 != 0)) hl367 (fun hl367 hc439 => ?_) (fun hl367 hc439 => ?_)
   ·refine rg ?_
    refine pu 3 [(2, .slice none 0 0), (3, I r405.2)] (nx (CW.ret (QW.then_ret (QW.block_ret (QW.then_ret (QW.then_ret (QW.block_ret (QW.then_ret ?_))))))))
    have hst := hst.nNil 73 R_t73 none
    obtain rfl := inj hl367
    obtain rfl := inj hF
    refine QW.ret2 rfl rfl rfl ?_
    exact ⟨(.slice none 0 0), ([]), rfl, hst.keep [3] rfl⟩
   refine CW.skip (QW.next (CW.region ?_))
   refine pu 2 [(40, .slice a374 (s368).length c375), (41, .pointer none)] ?_
   cases hl367
  rcases n366 with _ | n366
  ·refine CW.cond_f rfl hc376 ?_
   refine CW.exit (QW.then_exit (QW.then_exit ?_))
   refine QW.block_here ?_
   obtain rfl := inj hl367
   exact QW.meet (fun a ha => ⟨s368, (.slice a374 (s368).length c375), S370, rfl, ha.ag, hst.keep [1] rfl⟩)
  exact (cnt1 hi372 hc376).elim
 rintro a w1 ⟨t227, v223, S224, rfl, ha, hst⟩
 refine CW.go ?_ ha
 obtain ⟨l441, a442, c443, rfl⟩ := hst.nlen 0 rfl
 refine rg ?_
 refine pu 3 [(2, .slice a442 (t227).length c443), (3, I 0)] (nx (CW.ret ?_))
 obtain rfl := inj hF
 refine QW.ret2 rfl rfl rfl ?_
 exact ⟨(.slice a442 (t227).length c443), S224, rfl, hst.keep [0] rfl⟩
theorem place_Of_ok (w : World) (p0 : Int) (p1 : Int) (r : Int) (hF : place_Of p0 p1 = some r)
    (hst : St w (fp []) w []) :
    Calls Try.prog 60 [U p0, I p1].toArray w (fun e w' => e = .returned (I r) ∧ St w (fp []) w' []) := by
 refine CW.start (N := 14) Try.func60 rfl rfl rfl (rg ?_)
 refine pu 1 [] (nx (CW.seq (rg ?_)))
 refine pu 2 [(6, .bool (decide (p1 < 1)))] (nx ?_)
 refine br (decide (p1 < 1)) hF (fun hF hc1 => ?_) (fun hF hc1 => ?_)
 ·refine rg ?_
  refine pu 1 [(4, I 0)] (nx (CW.ret (QW.then_ret ?_)))
  obtain rfl := inj hF
  refine QW.ret1 rfl rfl ?_
  exact ⟨rfl, hst.keep [] rfl⟩
 refine CW.skip (QW.next (rg ?_))
 refine pu 5 [(9, U (bShr .u64 (wu64 (p0 * 11400714819323198485)) 32)), (11, U (wu64 p1))] ?_
 obtain ⟨u4, hz5, hF⟩ := bs hF
 refine OW.rem rfl rfl rfl rfl rfl (nz_ne hz5) ?_
 refine pu 2 [(4, I (w64 ((bShr .u64 (wu64 (p0 * 11400714819323198485)) 32).tmod (wu64 p1))))] (nx (CW.ret ?_))
 obtain rfl := inj hF
 refine QW.ret1 rfl rfl ?_
 exact ⟨rfl, hst.keep [] rfl⟩
end Go.Proofs.Ytpchniebplpboaa

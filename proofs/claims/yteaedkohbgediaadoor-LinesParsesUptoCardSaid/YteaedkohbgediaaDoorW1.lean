/- Written by a program (wip/gen): the walks: each Go function returns what its plain function computes. -/
import Derived.Test.YteaedkohbgediaaDoorProg
import Derived.Test.YteaedkohbgediaaDoorF1
import Derived.Test.YteaedkohbgediaaDoorOpen
import Derived.Test.YteaedkohbgediaaDoorPart
import Derived.Test.YteaedkohbgediaaDoorExt
import Derived.Test.YteaedkohbgediaaDoorSh
import Derived.Test.YteaedkohbgediaaDoorBld
import Derived.Test.YteaedkohbgediaaDoorW1p1
namespace Go.Proofs.YteaedkohbgediaaDoor
open Go.Sx
set_option linter.unusedVariables false

set_option maxRecDepth 10000 in
set_option maxHeartbeats 4000000 in
theorem tappetref03_words_ok (w : World) (fu : Nat) (p0 : ByteArray) (r : (List ByteArray)) (hF : tappetref03_words fu p0 = some r)
    (hst : St w (fp []) w []) :
    Calls Tryd.prog 45 [.string p0].toArray w (fun e w' => ∃ (x0 : Value), e = .returned (x0) ∧ St w (fp []) w' [rowI x0 9 encText 1 r]) := by
 refine CW.start (N := 32) Tryd.func45 rfl rfl rfl ?_
 refine CW.seq ?_
 refine CW.region ?_
 refine OW.pure 1 [] (by kernel_rfl) ?_
 refine OW.nil rfl ?_
 refine QW.next ?_
 refine CW.seq ?_
 refine CW.region ?_
 refine OW.pure 1 [(3, .slice none 0 0)] (by kernel_rfl) ?_
 refine OW.nil rfl ?_
 refine QW.next ?_
 refine CW.seq ?_
 refine CW.region ?_
 refine OW.pure 1 [(4, .int .i64 0)] (by kernel_rfl) ?_
 refine OW.nil rfl ?_
 refine QW.next ?_
 refine CW.seq ?_
 refine CW.seq ?_
 refine CW.region ?_
 refine OW.pure 1 [(5, .int .i64 0)] (by kernel_rfl) ?_
 refine OW.nil rfl ?_
 refine QW.next ?_
 obtain ⟨o116, ho117, hF⟩ := bind_some' hF
 refine CW.cutK (fun a w1 => ∃ (v115 : Value), Rep 32 [(3, v115)] a ∧ St w (fp []) w1 [rowI v115 9 encText 1 o116]) ?_ ?_
 ·refine CW.block ?_
  have hst := hst.nilRow ByteArray 9 encText 1
  refine CW.loop (fun n a w1 => ∃ (s194 : (List ByteArray) × Int × Int) (v195 : Value), Rep 32 [(0, .string p0), (3, v195), (4, .int .i64 s194.2.1), (5, .int .i64 s194.2.2)] a ∧ St w (fp []) w1 [rowI v195 9 encText 1 s194.1] ∧ loop (tappetref03_words_l1 p0) n s194 = some o116) fu (fun a ha => ⟨(([] : List ByteArray), 0, 0), (.slice none 0 0), ha.agrees (by kernel_rfl), hst.keep [0] rfl, ho117⟩) ?_
  rintro n192 a w1 ⟨s194, v195, ha, hst, hl193⟩
  rcases n192 with _ | n192
  ·exact (loop_zero hl193).elim
  refine CW.go ?_ ha
  obtain ⟨l196, a197, c198, rfl⟩ := hst.len 0 rfl
  refine CW.seq ?_
  refine CW.seq ?_
  refine CW.region ?_
  refine OW.pure 4 [(9, .bool (decide (s194.2.2 ≤ (p0.size : Int))))] (by kernel_rfl) ?_
  refine OW.nil rfl ?_
  refine QW.next ?_
  rcases Bool.eq_false_or_eq_true (decide (s194.2.2 ≤ (p0.size : Int))) with hc199 | hc199
  ·have hl193 := ite_t hl193 hc199
   refine CW.cond_t rfl hc199 ?_
   refine CW.skip ?_
   refine QW.next ?_
   refine CW.seq ?_
   refine CW.block ?_
   refine CW.seq ?_
   obtain ⟨o203, ho204, hl193⟩ := bind_some' hl193
   refine CW.cutK (fun a w1 => Rep 32 [(0, .string p0), (3, .slice a197 (s194.1).length c198), (4, .int .i64 s194.2.1), (5, .int .i64 s194.2.2), (21, .bool o203)] a ∧ St w (fp []) w1 [rowI (.slice a197 (s194.1).length c198) 9 encText 1 s194.1]) ?_ ?_
   ·refine CW.region ?_
    refine OW.pure 5 [(16, .bool (s194.2.2 == (p0.size : Int)))] (by kernel_rfl) ?_
    refine OW.split 16 rfl (fun hc205 => ?_) (fun hc205 => ?_)
    ·have ho204 := ite_t ho204 hc205
     refine OW.pure 5 [(21, .bool true)] (by kernel_rfl) ?_
     refine OW.nil rfl ?_
     obtain rfl := Option.some.inj ho204
     exact QW.meet (fun a ha => ⟨ha.agrees (by kernel_rfl), hst.keep [0] rfl⟩)
    ·have ho204 := ite_f ho204 hc205
     refine OW.pure 2 [(17, .string p0), (18, .int .i64 s194.2.2)] (by kernel_rfl) ?_
     obtain ⟨c206, hx207, ho204⟩ := bind_some' ho204
     refine OW.op (v := .int .u8 c206) rfl rfl rfl rfl (fun a ha => sidx_run rfl rfl rfl (by kernel_rfl) hx207 a _ ha) ?_
     refine OW.pure 2 [(21, .bool (c206 == 32))] (by kernel_rfl) ?_
     refine OW.nil rfl ?_
     obtain rfl := Option.some.inj ho204
     exact QW.meet (fun a ha => ⟨ha.agrees (by kernel_rfl), hst.keep [0] rfl⟩)
   ·rintro a w1 ⟨ha, hst⟩
    refine CW.go ?_ ha
    rcases Bool.eq_false_or_eq_true (o203) with hc208 | hc208
    ·have hl193 := ite_t hl193 hc208
     refine CW.cond_t rfl hc208 ?_
     refine CW.seq ?_
     refine CW.region ?_
     refine OW.pure 4 [(22, .slice a197 (s194.1).length c198), (23, .string p0), (24, .int .i64 s194.2.1), (25, .int .i64 s194.2.2)] (by kernel_rfl) ?_
     obtain ⟨x220, hx221, hl193⟩ := bind_some' hl193
     refine OW.op (v := .string x220) rfl rfl rfl rfl (fun a ha => ssub_run rfl rfl rfl rfl (by kernel_rfl) hx221 a _ ha) ?_
     refine OW.row (α := ByteArray) (e := 9) (enc := encText) (sz := 1) hst rfl rfl rfl [x220] rfl (fun _ => rfl) rfl rfl (fun _ => by kernel_rfl) ?_
     intro g222 w223 hst
     obtain ⟨u224, hr225, hl193⟩ := bind_some' hl193
     refine OW.app hst 0 rfl (fun _ => rfl) (fun _ => rfl) rfl rfl rfl rfl rfl rfl (by kernel_rfl) el9 (hst.rd 1 rfl (fun _ => rfl) [] rfl (hst.len 1 rfl).1) (room_le hr225) ?_
     intro v226 w227 hst
     obtain ⟨l228, a229, c230, rfl⟩ := hst.len 0 rfl
     refine OW.pure 1 [(3, .slice a229 ((s194.1 ++ [x220])).length c230)] (by kernel_rfl) ?_
     refine OW.nil rfl ?_
     refine QW.next ?_
     refine CW.region ?_
     refine OW.pure 3 [(4, .int .i64 (w64 (s194.2.2 + 1)))] (by kernel_rfl) ?_
     refine OW.nil rfl ?_
     refine QW.block_normal ?_
     refine QW.next ?_
     refine CW.region ?_
     refine OW.pure 3 [(5, .int .i64 (w64 (s194.2.2 + 1)))] (by kernel_rfl) ?_
     refine OW.nil rfl ?_
     exact QW.meet (fun a ha => ⟨n192, Nat.lt_succ_self _, ((s194.1 ++ [x220]), w64 (s194.2.2 + 1), w64 (s194.2.2 + 1)), (.slice a229 ((s194.1 ++ [x220])).length c230), ha.agrees (by kernel_rfl), hst.keep [0] rfl, hl193⟩)
    ·have hl193 := ite_f hl193 hc208
     refine CW.cond_f rfl hc208 ?_
     refine CW.skip ?_
     refine QW.block_normal ?_
     refine QW.next ?_
     refine CW.region ?_
     refine OW.pure 3 [(5, .int .i64 (w64 (s194.2.2 + 1)))] (by kernel_rfl) ?_
     refine OW.nil rfl ?_
     exact QW.meet (fun a ha => ⟨n192, Nat.lt_succ_self _, (s194.1, s194.2.1, w64 (s194.2.2 + 1)), (.slice a197 (s194.1).length c198), ha.agrees (by kernel_rfl), hst.keep [0] rfl, hl193⟩)
  ·have hl193 := ite_f hl193 hc199
   refine CW.cond_f rfl hc199 ?_
   refine CW.exit ?_
   refine QW.then_exit ?_
   refine QW.then_exit ?_
   refine QW.block_here ?_
   obtain rfl := Option.some.inj hl193
   exact QW.meet (fun a ha => ⟨(.slice a197 (s194.1).length c198), ha.agrees (by kernel_rfl), hst.keep [0] rfl⟩)
 ·rintro a w1 ⟨v115, ha, hst⟩
  refine CW.go ?_ ha
  obtain ⟨l234, a235, c236, rfl⟩ := hst.len 0 rfl
  refine CW.seq ?_
  refine CW.region ?_
  refine OW.pure 2 [(2, .slice a235 (o116).length c236)] (by kernel_rfl) ?_
  refine OW.nil rfl ?_
  refine QW.next ?_
  refine CW.ret ?_
  obtain rfl := Option.some.inj hF
  refine QW.ret1 rfl rfl ?_
  exact ⟨(.slice a235 (o116).length c236), rfl, hst.keep [0] rfl⟩

set_option maxRecDepth 10000 in
set_option maxHeartbeats 4000000 in
theorem tappetref02_Find_ok (w : World) (p0 : ByteArray) (r : Int × Bool) (hF : tappetref02_Find p0 = some r)
    (hst : St w (fp []) w []) :
    Calls Tryd.prog 46 [.string p0].toArray w (fun e w' => e = .returned (.tuple #[.int .i64 r.1, .bool r.2]) ∧ St w (fp []) w' []) := by
 refine CW.start (N := 20) Tryd.func46 rfl rfl rfl ?_
 refine CW.seq ?_
 refine CW.region ?_
 refine OW.pure 2 [] (by kernel_rfl) ?_
 refine OW.nil rfl ?_
 refine QW.next ?_
 refine CW.seq ?_
 refine CW.region ?_
 obtain ⟨r9, hr10, hF⟩ := bind_some' hF
 refine OW.fn rfl rfl rfl rfl (by kernel_rfl) (tappetref02_names_ok _ r9 hr10 (hst.part [] rfl)) ?_
 rintro e w11 ⟨v13, rfl, hst12⟩
 refine ⟨_, rfl, ?_⟩
 have hst := hst.join (idx := []) (rest := []) rfl hst12
 obtain ⟨l14, a15, c16, rfl⟩ := hst.len 0 rfl
 refine OW.pure 1 [(4, .slice a15 (r9).length c16)] (by kernel_rfl) ?_
 refine OW.nil rfl ?_
 refine QW.next ?_
 refine CW.seq ?_
 refine CW.seq ?_
 refine CW.region ?_
 refine OW.pure 1 [(5, .int .i64 0)] (by kernel_rfl) ?_
 refine OW.nil rfl ?_
 refine QW.next ?_
 obtain ⟨o65, ho66, hF⟩ := bind_some' hF
 refine CW.cutK (fun a w1 => ∃ (t67 : Unit), o65 = .inl t67 ∧ Rep 20 [] a ∧ St w (fp []) w1 []) ?_ ?_
 ·refine CW.block ?_
  refine CW.loop (fun n a w1 => ∃ (i100 : Nat) (s99 : Unit), i100 + n = (r9).length ∧ Rep 20 [(0, .string p0), (4, .slice a15 (r9).length c16), (5, .int .i64 (i100 : Int))] a ∧ St w (fp []) w1 [rowI (.slice a15 (r9).length c16) 9 encText 1 r9] ∧ forN (tappetref02_Find_l1 p0 r9) (fun (s99 : Unit) => (.inl ())) n i100 s99 = some o65) (r9).length (fun a ha => ⟨0, (), Nat.zero_add _, ha.agrees (by kernel_rfl), hst.keep [0] rfl, ho66⟩) ?_
  rintro n97 a w1 ⟨i100, s99, hi101, ha, hst, hl98⟩
  refine CW.go ?_ ha
  refine CW.seq ?_
  refine CW.seq ?_
  refine CW.region ?_
  refine OW.pure 4 [(10, .bool (decide ((i100 : Int) < ((r9).length : Int))))] (by kernel_rfl) ?_
  refine OW.nil rfl ?_
  refine QW.next ?_
  rcases Bool.eq_false_or_eq_true (decide ((i100 : Int) < ((r9).length : Int))) with hc102 | hc102
  ·rcases n97 with _ | n97
   ·exact (cnt0 hi101 hc102).elim
   refine CW.cond_t rfl hc102 ?_
   refine CW.skip ?_
   refine QW.next ?_
   refine CW.seq ?_
   refine CW.block ?_
   refine CW.seq ?_
   refine CW.region ?_
   refine OW.pure 2 [(13, .slice a15 (r9).length c16), (14, .int .i64 (i100 : Int))] (by kernel_rfl) ?_
   obtain ⟨x109, hx110, hl98⟩ := bind_some' hl98
   obtain ⟨g112, o113, c114, hv111⟩ := hst.rowv 0 rfl hx110
   refine OW.idx 9 1 rfl rfl rfl rfl hv111 rfl (idx_some hx110).1 (idx_some hx110).2.1 (by kernel_rfl) (by kernel_rfl) ?_
   refine OW.ld rfl rfl rfl rfl (by kernel_rfl) (hst.rowc 0 rfl (fun _ => rfl) hx110 hv111 0 _ rfl) ?_
   refine OW.pure 2 [(18, .bool (sEq x109 p0))] (by kernel_rfl) ?_
   refine OW.nil rfl ?_
   refine QW.next ?_
   rcases Bool.eq_false_or_eq_true (sEq x109 p0) with hc115 | hc115
   ·have hl98 := ite_t hl98 hc115
    refine CW.cond_t rfl hc115 ?_
    refine CW.seq ?_
    refine CW.region ?_
    refine OW.pure 3 [(2, .int .i64 (i100 : Int)), (3, .bool true)] (by kernel_rfl) ?_
    refine OW.nil rfl ?_
    refine QW.next ?_
    refine CW.ret ?_
    refine QW.block_ret ?_
    refine QW.then_ret ?_
    refine QW.then_ret ?_
    refine QW.block_ret ?_
    refine QW.then_ret ?_
    obtain rfl := Option.some.inj hl98
    obtain rfl := Option.some.inj hF
    refine QW.ret2 rfl rfl rfl ?_
    exact ⟨rfl, hst.keep [] rfl⟩
   ·have hl98 := ite_f hl98 hc115
    refine CW.cond_f rfl hc115 ?_
    refine CW.skip ?_
    refine QW.block_normal ?_
    refine QW.next ?_
    refine CW.region ?_
    refine OW.pure 3 [(5, .int .i64 (w64 ((i100 : Int) + 1)))] (by kernel_rfl) ?_
    refine OW.nil rfl ?_
    refine QW.say 5 rfl (congrArg (Value.int .i64) (w64_cnt hc102 l14)) ?_
    exact QW.meet (fun a ha => ⟨n97, Nat.lt_succ_self _, i100 + 1, (), cnt_next hi101, ha.agrees (by kernel_rfl), hst.keep [0] rfl, hl98⟩)
  ·rcases n97 with _ | n97
   ·refine CW.cond_f rfl hc102 ?_
    refine CW.exit ?_
    refine QW.then_exit ?_
    refine QW.then_exit ?_
    refine QW.block_here ?_
    obtain rfl := Option.some.inj hl98
    exact QW.meet (fun a ha => ⟨(), rfl, ha.agrees (by kernel_rfl), hst.keep [] rfl⟩)
   ·exact (cnt1 hi101 hc102).elim
 ·rintro a w1 ⟨t67, rfl, ha, hst⟩
  refine CW.go ?_ ha
  refine CW.seq ?_
  refine CW.region ?_
  refine OW.pure 2 [(2, .int .i64 0), (3, .bool false)] (by kernel_rfl) ?_
  refine OW.nil rfl ?_
  refine QW.next ?_
  refine CW.ret ?_
  obtain rfl := Option.some.inj hF
  refine QW.ret2 rfl rfl rfl ?_
  exact ⟨rfl, hst.keep [] rfl⟩

set_option maxRecDepth 10000 in
set_option maxHeartbeats 4000000 in
theorem tappetref03_value_ok (w : World) (p0 : ByteArray) (r : Int × Bool) (hF : tappetref03_value p0 = some r)
    (hst : St w (fp []) w []) :
    Calls Tryd.prog 47 [.string p0].toArray w (fun e w' => e = .returned (.tuple #[.int .i64 r.1, .bool r.2]) ∧ St w (fp []) w' []) := by
 refine CW.start (N := 50) Tryd.func47 rfl rfl rfl ?_
 refine CW.seq ?_
 refine CW.region ?_
 refine OW.pure 2 [] (by kernel_rfl) ?_
 refine OW.nil rfl ?_
 refine QW.next ?_
 refine CW.seq ?_
 refine CW.region ?_
 refine OW.pure 1 [(4, .int .u64 0)] (by kernel_rfl) ?_
 refine OW.nil rfl ?_
 refine QW.next ?_
 refine CW.seq ?_
 refine CW.region ?_
 refine OW.pure 1 [(5, .int .i64 0)] (by kernel_rfl) ?_
 refine OW.nil rfl ?_
 refine QW.next ?_
 refine CW.seq ?_
 refine CW.seq ?_
 refine CW.region ?_
 refine OW.pure 1 [(6, .int .i64 0)] (by kernel_rfl) ?_
 refine OW.nil rfl ?_
 refine QW.next ?_
 obtain ⟨o90, ho91, hF⟩ := bind_some' hF
 refine CW.cutK (fun a w1 => ∃ (t92 : Int × Int), o90 = .inl t92 ∧ Rep 50 [(0, .string p0), (4, .int .u64 t92.1), (5, .int .i64 t92.2)] a ∧ St w (fp []) w1 []) ?_ ?_
 ·refine CW.block ?_
  obtain ⟨u153, hr154, ho91⟩ := bind_some' ho91
  refine CW.loop (fun n a w1 => ∃ (i151 : Nat) (s150 : Int × Int), i151 + n = p0.size ∧ Rep 50 [(0, .string p0), (4, .int .u64 s150.1), (5, .int .i64 s150.2), (6, .int .i64 (i151 : Int))] a ∧ St w (fp []) w1 [] ∧ forN (tappetref03_value_l1 p0) (fun (s150 : Int × Int) => (.inl (s150.1, s150.2))) n i151 s150 = some o90) p0.size (fun a ha => ⟨0, (0, 0), Nat.zero_add _, ha.agrees (by kernel_rfl), hst.keep [] rfl, ho91⟩) ?_
  rintro n148 a w1 ⟨i151, s150, hi152, ha, hst, hl149⟩
  refine CW.go ?_ ha
  refine CW.seq ?_
  refine CW.seq ?_
  refine CW.region ?_
  refine OW.pure 4 [(10, .bool (decide ((i151 : Int) < (p0.size : Int))))] (by kernel_rfl) ?_
  refine OW.nil rfl ?_
  refine QW.next ?_
  rcases Bool.eq_false_or_eq_true (decide ((i151 : Int) < (p0.size : Int))) with hc155 | hc155
  ·rcases n148 with _ | n148
   ·exact (cnt0 hi152 hc155).elim
   refine CW.cond_t rfl hc155 ?_
   refine CW.skip ?_
   refine QW.next ?_
   refine CW.seq ?_
   refine CW.block ?_
   refine CW.seq ?_
   refine CW.seq ?_
   obtain ⟨o161, ho162, hl149⟩ := bind_some' hl149
   refine CW.cutK (fun a w1 => Rep 50 [(0, .string p0), (4, .int .u64 s150.1), (5, .int .i64 s150.2), (6, .int .i64 (i151 : Int)), (20, .bool o161)] a ∧ St w (fp []) w1 []) ?_ ?_
   ·refine CW.region ?_
    refine OW.pure 2 [(13, .string p0), (14, .int .i64 (i151 : Int))] (by kernel_rfl) ?_
    obtain ⟨c163, hx164, ho162⟩ := bind_some' ho162
    refine OW.op (v := .int .u8 c163) rfl rfl rfl rfl (fun a ha => sidx_run rfl rfl rfl (by kernel_rfl) hx164 a _ ha) ?_
    refine OW.pure 2 [(17, .bool (c163 == 45))] (by kernel_rfl) ?_
    refine OW.split 17 rfl (fun hc165 => ?_) (fun hc165 => ?_)
    ·have ho162 := ite_t ho162 hc165
     refine OW.pure 3 [(20, .bool ((i151 : Int) == 0))] (by kernel_rfl) ?_
     refine OW.nil rfl ?_
     obtain rfl := Option.some.inj ho162
     exact QW.meet (fun a ha => ⟨ha.agrees (by kernel_rfl), hst.keep [] rfl⟩)
    ·have ho162 := ite_f ho162 hc165
     refine OW.pure 3 [(20, .bool false)] (by kernel_rfl) ?_
     refine OW.nil rfl ?_
     obtain rfl := Option.some.inj ho162
     exact QW.meet (fun a ha => ⟨ha.agrees (by kernel_rfl), hst.keep [] rfl⟩)
   ·rintro a w1 ⟨ha, hst⟩
    refine CW.go ?_ ha
    rcases Bool.eq_false_or_eq_true (o161) with hc166 | hc166
    ·have hl149 := ite_t hl149 hc166
     refine CW.cond_t rfl hc166 ?_
     refine CW.exit ?_
     refine QW.then_exit ?_
     refine QW.block_here ?_
     refine QW.next ?_
     refine CW.region ?_
     refine OW.pure 3 [(6, .int .i64 (w64 ((i151 : Int) + 1)))] (by kernel_rfl) ?_
     refine OW.nil rfl ?_
     refine QW.say 6 rfl (congrArg (Value.int .i64) (w64_cnt hc155 (room_sz hr154))) ?_
     exact QW.meet (fun a ha => ⟨n148, Nat.lt_succ_self _, i151 + 1, (s150.1, s150.2), cnt_next hi152, ha.agrees (by kernel_rfl), hst.keep [] rfl, hl149⟩)
    ·have hl149 := ite_f hl149 hc166
     refine CW.cond_f rfl hc166 ?_
     refine CW.skip ?_
     refine QW.next ?_
     refine CW.seq ?_
     refine CW.seq ?_
     obtain ⟨o172, ho173, hl149⟩ := bind_some' hl149
     refine CW.cutK (fun a w1 => Rep 50 [(0, .string p0), (4, .int .u64 s150.1), (5, .int .i64 s150.2), (6, .int .i64 (i151 : Int)), (30, .bool o172)] a ∧ St w (fp []) w1 []) ?_ ?_
     ·refine CW.region ?_
      refine OW.pure 2 [(21, .string p0), (22, .int .i64 (i151 : Int))] (by kernel_rfl) ?_
      obtain ⟨c174, hx175, ho173⟩ := bind_some' ho173
      refine OW.op (v := .int .u8 c174) rfl rfl rfl rfl (fun a ha => sidx_run rfl rfl rfl (by kernel_rfl) hx175 a _ ha) ?_
      refine OW.pure 2 [(25, .bool (decide (c174 < 48)))] (by kernel_rfl) ?_
      refine OW.split 25 rfl (fun hc176 => ?_) (fun hc176 => ?_)
      ·have ho173 := ite_t ho173 hc176
       refine OW.pure 5 [(30, .bool true)] (by kernel_rfl) ?_
       refine OW.nil rfl ?_
       obtain rfl := Option.some.inj ho173
       exact QW.meet (fun a ha => ⟨ha.agrees (by kernel_rfl), hst.keep [] rfl⟩)
      ·have ho173 := ite_f ho173 hc176
       refine OW.pure 2 [(26, .string p0), (27, .int .i64 (i151 : Int))] (by kernel_rfl) ?_
       refine OW.op (v := .int .u8 c174) rfl rfl rfl rfl (fun a ha => sidx_run rfl rfl rfl (by kernel_rfl) hx175 a _ ha) ?_
       refine OW.pure 2 [(30, .bool (decide (c174 > 57)))] (by kernel_rfl) ?_
       refine OW.nil rfl ?_
       obtain rfl := Option.some.inj ho173
       exact QW.meet (fun a ha => ⟨ha.agrees (by kernel_rfl), hst.keep [] rfl⟩)
     ·rintro a w1 ⟨ha, hst⟩
      refine CW.go ?_ ha
      rcases Bool.eq_false_or_eq_true (o172) with hc177 | hc177
      ·have hl149 := ite_t hl149 hc177
       refine CW.cond_t rfl hc177 ?_
       refine CW.seq ?_
       refine CW.region ?_
       refine OW.pure 2 [(2, .int .i64 0), (3, .bool false)] (by kernel_rfl) ?_
       refine OW.nil rfl ?_
       refine QW.next ?_
       refine CW.ret ?_
       refine QW.then_ret ?_
       refine QW.block_ret ?_
       refine QW.then_ret ?_
       refine QW.then_ret ?_
       refine QW.block_ret ?_
       refine QW.then_ret ?_
       obtain rfl := Option.some.inj hl149
       obtain rfl := Option.some.inj hF
       refine QW.ret2 rfl rfl rfl ?_
       exact ⟨rfl, hst.keep [] rfl⟩
      ·have hl149 := ite_f hl149 hc177
       refine CW.cond_f rfl hc177 ?_
       refine CW.skip ?_
       refine QW.next ?_
       refine CW.seq ?_
       refine CW.region ?_
       refine OW.pure 4 [(32, .int .u64 (wu64 (10 * s150.1))), (33, .string p0), (34, .int .i64 (i151 : Int))] (by kernel_rfl) ?_
       obtain ⟨c180, hx181, hl149⟩ := bind_some' hl149
       refine OW.op (v := .int .u8 c180) rfl rfl rfl rfl (fun a ha => sidx_run rfl rfl rfl (by kernel_rfl) hx181 a _ ha) ?_
       refine OW.pure 4 [(4, .int .u64 (wu64 ((wu64 (10 * s150.1)) + (wu64 (IntKind.u8.wrap (c180 - 48))))))] (by kernel_rfl) ?_
       refine OW.nil rfl ?_
       refine QW.next ?_
       refine CW.region ?_
       refine OW.pure 3 [(5, .int .i64 (w64 (s150.2 + 1)))] (by kernel_rfl) ?_
       refine OW.nil rfl ?_
       refine QW.block_normal ?_
       refine QW.next ?_
       refine CW.region ?_
       refine OW.pure 3 [(6, .int .i64 (w64 ((i151 : Int) + 1)))] (by kernel_rfl) ?_
       refine OW.nil rfl ?_
       refine QW.say 6 rfl (congrArg (Value.int .i64) (w64_cnt hc155 (room_sz hr154))) ?_
       exact QW.meet (fun a ha => ⟨n148, Nat.lt_succ_self _, i151 + 1, (wu64 ((wu64 (10 * s150.1)) + (wu64 (IntKind.u8.wrap (c180 - 48)))), w64 (s150.2 + 1)), cnt_next hi152, ha.agrees (by kernel_rfl), hst.keep [] rfl, hl149⟩)
  ·rcases n148 with _ | n148
   ·refine CW.cond_f rfl hc155 ?_
    refine CW.exit ?_
    refine QW.then_exit ?_
    refine QW.then_exit ?_
    refine QW.block_here ?_
    obtain rfl := Option.some.inj hl149
    exact QW.meet (fun a ha => ⟨(s150.1, s150.2), rfl, ha.agrees (by kernel_rfl), hst.keep [] rfl⟩)
   ·exact (cnt1 hi152 hc155).elim
 ·rintro a w1 ⟨t92, rfl, ha, hst⟩
  refine CW.go ?_ ha
  refine CW.seq ?_
  refine CW.seq ?_
  refine CW.region ?_
  refine OW.pure 2 [(42, .bool (t92.2 == 0))] (by kernel_rfl) ?_
  refine OW.nil rfl ?_
  refine QW.next ?_
  rcases Bool.eq_false_or_eq_true ((t92.2 == 0)) with hc182 | hc182
  ·have hF := ite_t hF hc182
   refine CW.cond_t rfl hc182 ?_
   refine CW.seq ?_
   refine CW.region ?_
   refine OW.pure 2 [(2, .int .i64 0), (3, .bool false)] (by kernel_rfl) ?_
   refine OW.nil rfl ?_
   refine QW.next ?_
   refine CW.ret ?_
   refine QW.then_ret ?_
   obtain rfl := Option.some.inj hF
   refine QW.ret2 rfl rfl rfl ?_
   exact ⟨rfl, hst.keep [] rfl⟩
  ·have hF := ite_f hF hc182
   refine CW.cond_f rfl hc182 ?_
   refine CW.skip ?_
   refine QW.next ?_
   refine CW.seq ?_
   refine CW.seq ?_
   refine CW.region ?_
   refine OW.pure 1 [(43, .string p0)] (by kernel_rfl) ?_
   obtain ⟨c185, hx186, hF⟩ := bind_some' hF
   refine OW.op (v := .int .u8 c185) rfl rfl rfl rfl (fun a ha => sidx_run rfl rfl rfl (by kernel_rfl) hx186 a _ ha) ?_
   refine OW.pure 1 [(45, .bool (c185 == 45))] (by kernel_rfl) ?_
   refine OW.nil rfl ?_
   refine QW.next ?_
   rcases Bool.eq_false_or_eq_true ((c185 == 45)) with hc187 | hc187
   ·have hF := ite_t hF hc187
    refine CW.cond_t rfl hc187 ?_
    refine CW.region ?_
    refine OW.pure 3 [(4, .int .u64 (wu64 (0 - t92.1)))] (by kernel_rfl) ?_
    refine OW.nil rfl ?_
    refine QW.next ?_
    refine CW.seq ?_
    refine CW.region ?_
    refine OW.pure 4 [(2, .int .i64 (w64 (wu64 (0 - t92.1)))), (3, .bool true)] (by kernel_rfl) ?_
    refine OW.nil rfl ?_
    refine QW.next ?_
    refine CW.ret ?_
    obtain rfl := Option.some.inj hF
    refine QW.ret2 rfl rfl rfl ?_
    exact ⟨rfl, hst.keep [] rfl⟩
   ·have hF := ite_f hF hc187
    refine CW.cond_f rfl hc187 ?_
    refine CW.skip ?_
    refine QW.next ?_
    refine CW.seq ?_
    refine CW.region ?_
    refine OW.pure 4 [(2, .int .i64 (w64 t92.1)), (3, .bool true)] (by kernel_rfl) ?_
    refine OW.nil rfl ?_
    refine QW.next ?_
    refine CW.ret ?_
    obtain rfl := Option.some.inj hF
    refine QW.ret2 rfl rfl rfl ?_
    exact ⟨rfl, hst.keep [] rfl⟩

set_option maxRecDepth 10000 in
set_option maxHeartbeats 4000000 in
theorem tappetref03_Read_ok (w : World) (fu : Nat) (p0 : ByteArray) (r : api_Inst × Bool) (hF : tappetref03_Read fu p0 = some r)
    (hst : St w (fp []) w []) :
    Calls Tryd.prog 23 [.string p0].toArray w (fun e w' => e = .returned (.tuple #[.agg [.int .i64 r.1.Op, .int .i64 r.1.D, .int .i64 r.1.A, .int .i64 r.1.B, .int .i64 r.1.Imm].toArray, .bool r.2]) ∧ St w (fp []) w' []) := by
 refine CW.start (N := 206) Tryd.func23 rfl rfl rfl ?_
 refine CW.seq ?_
 refine CW.region ?_
 refine OW.alloc hst rfl rfl rfl [.int .i64 0, .int .i64 0, .int .i64 0, .int .i64 0, .int .i64 0] (by kernel_rfl) ?_
 intro b3 w4 hst
 refine OW.pure 1 [] (by kernel_rfl) ?_
 refine OW.nil rfl ?_
 refine QW.next ?_
 refine CW.seq ?_
 refine CW.region ?_
 refine OW.pure 1 [(15, .string p0)] (by kernel_rfl) ?_
 obtain ⟨r13, hr14, hF⟩ := bind_some' hF
 refine OW.fn rfl rfl rfl rfl (by kernel_rfl) (tappetref03_words_ok _ fu p0 r13 hr14 (hst.part [] rfl)) ?_
 rintro e w15 ⟨v17, rfl, hst16⟩
 refine ⟨_, rfl, ?_⟩
 have hst := hst.join (idx := []) (rest := [0]) rfl hst16
 obtain ⟨l18, a19, c20, rfl⟩ := hst.len 0 rfl
 refine OW.pure 1 [(4, .slice a19 (r13).length c20)] (by kernel_rfl) ?_
 refine OW.nil rfl ?_
 refine QW.next ?_
 refine CW.seq ?_
 refine CW.region ?_
 refine OW.pure 1 [(18, .slice a19 (r13).length c20)] (by kernel_rfl) ?_
 obtain ⟨x31, hx32, hF⟩ := bind_some' hF
 obtain ⟨g34, o35, c36, hv33⟩ := hst.rowv 0 rfl hx32
 refine OW.idx 9 1 rfl rfl rfl rfl hv33 rfl (idx_some hx32).1 (idx_some hx32).2.1 (by kernel_rfl) (by kernel_rfl) ?_
 refine OW.ld rfl rfl rfl rfl (by kernel_rfl) (hst.rowc 0 rfl (fun _ => rfl) hx32 hv33 0 _ rfl) ?_
 obtain ⟨r37, hr38, hF⟩ := bind_some' hF
 refine OW.fn rfl rfl rfl rfl (by kernel_rfl) (tappetref02_Find_ok _ x31 r37 hr38 (hst.part [] rfl)) ?_
 rintro e w39 ⟨rfl, hst40⟩
 refine ⟨_, rfl, ?_⟩
 have hst := hst.join (idx := []) (rest := [0, 1]) rfl hst40
 refine OW.pure 5 [(5, .int .i64 r37.1), (6, .bool r37.2)] (by kernel_rfl) ?_
 refine OW.nil rfl ?_
 refine QW.next ?_
 refine CW.seq ?_
 refine CW.seq ?_
 refine CW.cutK (fun a w1 => Rep 206 [(0, .string p0), (2, .pointer (some ⟨b3, 0, none⟩)), (4, .slice a19 (r13).length c20), (5, .int .i64 r37.1), (30, .bool ((!r37.2) || decide (((r13).length : Int) > 4)))] a ∧ St w (fp []) w1 [rowI (.slice a19 (r13).length c20) 9 encText 1 r13, blkI b3 32 [.int .i64 0, .int .i64 0, .int .i64 0, .int .i64 0, .int .i64 0]]) ?_ ?_
 ·refine CW.region ?_
  refine OW.pure 3 [(26, .bool (!r37.2))] (by kernel_rfl) ?_
  refine OW.split 26 rfl (fun hc41 => ?_) (fun hc41 => ?_)
  ·refine OW.pure 4 [(30, .bool true)] (by kernel_rfl) ?_
   refine OW.nil rfl ?_
   refine QW.say 30 (v := .bool ((!r37.2) || decide (((r13).length : Int) > 4))) rfl (by first | (rw [hc41]; done) | (rw [hc41]; rfl) | simp [hc41]) ?_
   exact QW.meet (fun a ha => ⟨ha.agrees (by kernel_rfl), hst.keep [0, 1] rfl⟩)
  ·refine OW.pure 4 [(30, .bool (decide (((r13).length : Int) > 4)))] (by kernel_rfl) ?_
   refine OW.nil rfl ?_
   refine QW.say 30 (v := .bool ((!r37.2) || decide (((r13).length : Int) > 4))) rfl (by first | (rw [hc41]; done) | (rw [hc41]; rfl) | simp [hc41]) ?_
   exact QW.meet (fun a ha => ⟨ha.agrees (by kernel_rfl), hst.keep [0, 1] rfl⟩)
 ·rintro a w1 ⟨ha, hst⟩
  refine CW.go ?_ ha
  rcases Bool.eq_false_or_eq_true (((!r37.2) || decide (((r13).length : Int) > 4))) with hc42 | hc42
  ·have hF := ite_t hF hc42
   refine CW.cond_t rfl hc42 ?_
   refine CW.seq ?_
   refine CW.region ?_
   refine OW.pure 1 [(31, .agg [.int .i64 0, .int .i64 0, .int .i64 0, .int .i64 0, .int .i64 0].toArray)] (by kernel_rfl) ?_
   refine OW.stB hst 1 rfl rfl rfl rfl rfl (by kernel_rfl) rfl rfl [.int .i64 0, .int .i64 0, .int .i64 0, .int .i64 0, .int .i64 0] rfl ?_
   intro w44 hst
   refine OW.pure 1 [(3, .bool false)] (by kernel_rfl) ?_
   refine OW.nil rfl ?_
   refine QW.next ?_
   refine CW.ret ?_
   refine QW.then_ret ?_
   obtain rfl := Option.some.inj hF
   refine QW.ret_ct rfl rfl (run_loadN (cs := [.int .i64 0, .int .i64 0, .int .i64 0, .int .i64 0, .int .i64 0]) (by kernel_rfl) (by kernel_rfl) (hst.blkN 1 rfl 0 5)) rfl ?_
   exact ⟨rfl, hst.keep [] rfl⟩
  ·have hF := ite_f hF hc42
   refine CW.cond_f rfl hc42 ?_
   refine CW.skip ?_
   refine QW.next ?_
   refine CW.seq ?_
   refine CW.region ?_
   refine OW.row (α := Int) (e := 3) (enc := encInt .i64) (sz := 1) hst rfl rfl rfl [0, 0, 0] rfl (fun _ => rfl) rfl rfl (fun _ => by kernel_rfl) ?_
   intro g47 w48 hst
   refine OW.pure 1 [(7, .slice (some ⟨g47, 0, none⟩) 3 3)] (by kernel_rfl) ?_
   refine OW.nil rfl ?_
   refine QW.next ?_
   refine CW.seq ?_
   refine CW.region ?_
   refine OW.row (α := Int) (e := 2) (enc := encInt .i64) (sz := 1) hst rfl rfl rfl [0, 0, 0] rfl (fun _ => rfl) rfl rfl (fun _ => by kernel_rfl) ?_
   intro g51 w52 hst
   refine OW.pure 1 [(8, .slice (some ⟨g51, 0, none⟩) 3 3)] (by kernel_rfl) ?_
   refine OW.nil rfl ?_
   refine QW.next ?_
   refine CW.seq ?_
   refine CW.region ?_
   refine OW.row (α := Bool) (e := 4) (enc := encBool) (sz := 1) hst rfl rfl rfl [false, false, false] rfl (fun _ => rfl) rfl rfl (fun _ => by kernel_rfl) ?_
   intro g55 w56 hst
   refine OW.pure 1 [(9, .slice (some ⟨g55, 0, none⟩) 3 3)] (by kernel_rfl) ?_
   refine OW.nil rfl ?_
   refine QW.next ?_
   refine CW.seq ?_
   refine CW.seq ?_
   refine CW.region ?_
   refine OW.pure 1 [(10, .int .i64 1)] (by kernel_rfl) ?_
   refine OW.nil rfl ?_
   refine QW.next ?_
   obtain ⟨o412, ho413, hF⟩ := bind_some' hF
   refine CW.cutK (fun a w1 => ∃ (t414 : (List Int) × (List Int) × (List Bool)), o412 = .inl t414 ∧ Rep 206 [(0, .string p0), (2, .pointer (some ⟨b3, 0, none⟩)), (5, .int .i64 r37.1), (7, .slice (some ⟨g47, 0, none⟩) 3 3), (8, .slice (some ⟨g51, 0, none⟩) 3 3), (9, .slice (some ⟨g55, 0, none⟩) 3 3)] a ∧ St w (fp []) w1 [blkI b3 32 [.int .i64 0, .int .i64 0, .int .i64 0, .int .i64 0, .int .i64 0], rowI (.slice (some ⟨g47, 0, none⟩) 3 3) 3 (encInt .i64) 1 t414.1, rowI (.slice (some ⟨g51, 0, none⟩) 3 3) 2 (encInt .i64) 1 t414.2.1, rowI (.slice (some ⟨g55, 0, none⟩) 3 3) 4 encBool 1 t414.2.2]) ?_ ?_
   ·refine CW.block ?_
    refine CW.loop (fun n a w1 => ∃ (s652 : (List Int) × (List Int) × (List Bool) × Int), Rep 206 [(0, .string p0), (2, .pointer (some ⟨b3, 0, none⟩)), (4, .slice a19 (r13).length c20), (5, .int .i64 r37.1), (7, .slice (some ⟨g47, 0, none⟩) 3 3), (8, .slice (some ⟨g51, 0, none⟩) 3 3), (9, .slice (some ⟨g55, 0, none⟩) 3 3), (10, .int .i64 s652.2.2.2)] a ∧ St w (fp []) w1 [blkI b3 32 [.int .i64 0, .int .i64 0, .int .i64 0, .int .i64 0, .int .i64 0], rowI (.slice a19 (r13).length c20) 9 encText 1 r13, rowI (.slice (some ⟨g47, 0, none⟩) 3 3) 3 (encInt .i64) 1 s652.1, rowI (.slice (some ⟨g51, 0, none⟩) 3 3) 2 (encInt .i64) 1 s652.2.1, rowI (.slice (some ⟨g55, 0, none⟩) 3 3) 4 encBool 1 s652.2.2.1] ∧ loop (tappetref03_Read_l1 r13) n s652 = some o412) fu (fun a ha => ⟨(([0, 0, 0] : List Int), ([0, 0, 0] : List Int), [false, false, false], 1), ha.agrees (by kernel_rfl), hst.keep [1, 0, 2, 3, 4] rfl, ho413⟩) ?_
    rintro n650 a w1 ⟨s652, ha, hst, hl651⟩
    rcases n650 with _ | n650
    ·exact (loop_zero hl651).elim
    refine CW.go ?_ ha
    refine CW.seq ?_
    refine CW.seq ?_
    refine CW.region ?_
    refine OW.pure 4 [(38, .bool (decide (s652.2.2.2 < ((r13).length : Int))))] (by kernel_rfl) ?_
    refine OW.nil rfl ?_
    refine QW.next ?_
    rcases Bool.eq_false_or_eq_true (decide (s652.2.2.2 < ((r13).length : Int))) with hc653 | hc653
    ·have hl651 := ite_t hl651 hc653
     refine CW.cond_t rfl hc653 ?_
     refine CW.skip ?_
     refine QW.next ?_
     refine CW.seq ?_
     refine CW.block ?_
     refine CW.seq ?_
     obtain ⟨o673, ho674, hl651⟩ := bind_some' hl651
     refine CW.cutK (fun a w1 => Rep 206 [(0, .string p0), (2, .pointer (some ⟨b3, 0, none⟩)), (4, .slice a19 (r13).length c20), (5, .int .i64 r37.1), (7, .slice (some ⟨g47, 0, none⟩) 3 3), (8, .slice (some ⟨g51, 0, none⟩) 3 3), (9, .slice (some ⟨g55, 0, none⟩) 3 3), (10, .int .i64 s652.2.2.2), (54, .bool o673)] a ∧ St w (fp []) w1 [blkI b3 32 [.int .i64 0, .int .i64 0, .int .i64 0, .int .i64 0, .int .i64 0], rowI (.slice a19 (r13).length c20) 9 encText 1 r13, rowI (.slice (some ⟨g47, 0, none⟩) 3 3) 3 (encInt .i64) 1 s652.1, rowI (.slice (some ⟨g51, 0, none⟩) 3 3) 2 (encInt .i64) 1 s652.2.1, rowI (.slice (some ⟨g55, 0, none⟩) 3 3) 4 encBool 1 s652.2.2.1]) ?_ ?_
     ·refine CW.region ?_
      refine OW.pure 2 [(41, .slice a19 (r13).length c20), (42, .int .i64 s652.2.2.2)] (by kernel_rfl) ?_
      obtain ⟨x675, hx676, ho674⟩ := bind_some' ho674
      obtain ⟨g678, o679, c680, hv677⟩ := hst.rowv 1 rfl hx676
      refine OW.idx 9 1 rfl rfl rfl rfl hv677 rfl (idx_some hx676).1 (idx_some hx676).2.1 (by kernel_rfl) (by kernel_rfl) ?_
      refine OW.ld rfl rfl rfl rfl (by kernel_rfl) (hst.rowc 1 rfl (fun _ => rfl) hx676 hv677 0 _ rfl) ?_
      refine OW.pure 3 [(47, .bool ((x675.size : Int) == 2))] (by kernel_rfl) ?_
      refine OW.split 47 rfl (fun hc681 => ?_) (fun hc681 => ?_)
      ·have ho674 := ite_t ho674 hc681
       refine OW.pure 2 [(48, .slice a19 (r13).length c20), (49, .int .i64 s652.2.2.2)] (by kernel_rfl) ?_
       obtain ⟨g683, o684, c685, hv682⟩ := hst.rowv 1 rfl hx676
       refine OW.idx 9 1 rfl rfl rfl rfl hv682 rfl (idx_some hx676).1 (idx_some hx676).2.1 (by kernel_rfl) (by kernel_rfl) ?_
       refine OW.ld rfl rfl rfl rfl (by kernel_rfl) (hst.rowc 1 rfl (fun _ => rfl) hx676 hv682 0 _ rfl) ?_
       obtain ⟨c686, hx687, ho674⟩ := bind_some' ho674
       refine OW.op (v := .int .u8 c686) rfl rfl rfl rfl (fun a ha => sidx_run rfl rfl rfl (by kernel_rfl) hx687 a _ ha) ?_
       refine OW.pure 2 [(54, .bool (c686 == 114))] (by kernel_rfl) ?_
       refine OW.nil rfl ?_
       obtain rfl := Option.some.inj ho674
       exact QW.meet (fun a ha => ⟨ha.agrees (by kernel_rfl), hst.keep [0, 1, 2, 3, 4] rfl⟩)
      ·have ho674 := ite_f ho674 hc681
       refine OW.pure 7 [(54, .bool false)] (by kernel_rfl) ?_
       refine OW.nil rfl ?_
       obtain rfl := Option.some.inj ho674
       exact QW.meet (fun a ha => ⟨ha.agrees (by kernel_rfl), hst.keep [0, 1, 2, 3, 4] rfl⟩)
     ·rintro a w1 ⟨ha, hst⟩
      refine CW.go ?_ ha
      rcases Bool.eq_false_or_eq_true (o673) with hc688 | hc688
      ·have hl651 := ite_t hl651 hc688
       refine CW.cond_t rfl hc688 ?_
       refine CW.seq ?_
       refine CW.region ?_
       refine OW.pure 5 [(55, .slice (some ⟨g47, 0, none⟩) 3 3), (57, .int .i64 (w64 (s652.2.2.2 - 1))), (58, .slice a19 (r13).length c20), (59, .int .i64 s652.2.2.2)] (by kernel_rfl) ?_
       obtain ⟨x704, hx705, hl651⟩ := bind_some' hl651
       obtain ⟨g707, o708, c709, hv706⟩ := hst.rowv 1 rfl hx705
       refine OW.idx 9 1 rfl rfl rfl rfl hv706 rfl (idx_some hx705).1 (idx_some hx705).2.1 (by kernel_rfl) (by kernel_rfl) ?_
       refine OW.ld rfl rfl rfl rfl (by kernel_rfl) (hst.rowc 1 rfl (fun _ => rfl) hx705 hv706 0 _ rfl) ?_
       obtain ⟨c710, hx711, hl651⟩ := bind_some' hl651
       refine OW.op (v := .int .u8 c710) rfl rfl rfl rfl (fun a ha => sidx_run rfl rfl rfl (by kernel_rfl) hx711 a _ ha) ?_
       refine OW.pure 2 [(64, .int .i64 (w64 ((w64 c710) - 48)))] (by kernel_rfl) ?_
       obtain ⟨x712, hx713, hl651⟩ := bind_some' hl651
       obtain ⟨g715, o716, c717, hv714⟩ := hst.rowv 2 rfl hx713
       refine OW.idx 3 1 rfl rfl rfl rfl hv714 rfl (idx_some hx713).1 (idx_some hx713).2.1 (by kernel_rfl) (by kernel_rfl) ?_
       refine OW.stR hst 2 rfl hv714 (fun _ => rfl) rfl rfl hx713 0 rfl rfl rfl (by kernel_rfl) rfl rfl (w64 ((w64 c710) - 48)) rfl ?_
       intro w718 hst
       refine OW.nil rfl ?_
       refine QW.next ?_
       refine CW.region ?_
       refine OW.pure 3 [(66, .slice (some ⟨g55, 0, none⟩) 3 3), (68, .int .i64 (w64 (s652.2.2.2 - 1)))] (by kernel_rfl) ?_
       obtain ⟨x726, hx727, hl651⟩ := bind_some' hl651
       obtain ⟨g729, o730, c731, hv728⟩ := hst.rowv 4 rfl hx727
       refine OW.idx 4 1 rfl rfl rfl rfl hv728 rfl (idx_some hx727).1 (idx_some hx727).2.1 (by kernel_rfl) (by kernel_rfl) ?_
       refine OW.stR hst 4 rfl hv728 (fun _ => rfl) rfl rfl hx727 0 rfl rfl rfl (by kernel_rfl) rfl rfl true rfl ?_
       intro w732 hst
       refine OW.nil rfl ?_
       refine QW.block_normal ?_
       refine QW.next ?_
       refine CW.region ?_
       refine OW.pure 3 [(10, .int .i64 (w64 (s652.2.2.2 + 1)))] (by kernel_rfl) ?_
       refine OW.nil rfl ?_
       exact QW.meet (fun a ha => ⟨n650, Nat.lt_succ_self _, ((s652.1.set (Int.toNat (w64 (s652.2.2.2 - 1))) (w64 ((w64 c710) - 48))), s652.2.1, (s652.2.2.1.set (Int.toNat (w64 (s652.2.2.2 - 1))) true), w64 (s652.2.2.2 + 1)), ha.agrees (by kernel_rfl), hst.keep [0, 1, 2, 3, 4] rfl, hl651⟩)
      ·have hl651 := ite_f hl651 hc688
       refine CW.cond_f rfl hc688 ?_
       refine CW.seq ?_
       refine CW.region ?_
       refine OW.pure 2 [(71, .slice a19 (r13).length c20), (72, .int .i64 s652.2.2.2)] (by kernel_rfl) ?_
       obtain ⟨x743, hx744, hl651⟩ := bind_some' hl651
       obtain ⟨g746, o747, c748, hv745⟩ := hst.rowv 1 rfl hx744
       refine OW.idx 9 1 rfl rfl rfl rfl hv745 rfl (idx_some hx744).1 (idx_some hx744).2.1 (by kernel_rfl) (by kernel_rfl) ?_
       refine OW.ld rfl rfl rfl rfl (by kernel_rfl) (hst.rowc 1 rfl (fun _ => rfl) hx744 hv745 0 _ rfl) ?_
       obtain ⟨r749, hr750, hl651⟩ := bind_some' hl651
       refine OW.fn rfl rfl rfl rfl (by kernel_rfl) (tappetref03_value_ok _ x743 r749 hr750 (hst.part [] rfl)) ?_
       rintro e w751 ⟨rfl, hst752⟩
       refine ⟨_, rfl, ?_⟩
       have hst := hst.join (idx := []) (rest := [0, 1, 2, 3, 4]) rfl hst752
       refine OW.pure 5 [(11, .int .i64 r749.1), (12, .bool r749.2)] (by kernel_rfl) ?_
       refine OW.nil rfl ?_
       refine QW.next ?_
       refine CW.seq ?_
       refine CW.seq ?_
       refine CW.region ?_
       refine OW.pure 2 [(79, .bool (!r749.2))] (by kernel_rfl) ?_
       refine OW.nil rfl ?_
       refine QW.next ?_
       rcases Bool.eq_false_or_eq_true ((!r749.2)) with hc753 | hc753
       ·have hl651 := ite_t hl651 hc753
        refine CW.cond_t rfl hc753 ?_
        refine CW.seq ?_
        refine CW.region ?_
        refine OW.pure 1 [(80, .agg [.int .i64 0, .int .i64 0, .int .i64 0, .int .i64 0, .int .i64 0].toArray)] (by kernel_rfl) ?_
        refine OW.stB hst 0 rfl rfl rfl rfl rfl (by kernel_rfl) rfl rfl [.int .i64 0, .int .i64 0, .int .i64 0, .int .i64 0, .int .i64 0] rfl ?_
        intro w755 hst
        refine OW.pure 1 [(3, .bool false)] (by kernel_rfl) ?_
        refine OW.nil rfl ?_
        refine QW.next ?_
        refine CW.ret ?_
        refine QW.then_ret ?_
        refine QW.block_ret ?_
        refine QW.then_ret ?_
        refine QW.then_ret ?_
        refine QW.block_ret ?_
        refine QW.then_ret ?_
        obtain rfl := Option.some.inj hl651
        obtain rfl := Option.some.inj hF
        refine QW.ret_ct rfl rfl (run_loadN (cs := [.int .i64 0, .int .i64 0, .int .i64 0, .int .i64 0, .int .i64 0]) (by kernel_rfl) (by kernel_rfl) (hst.blkN 0 rfl 0 5)) rfl ?_
        exact ⟨rfl, hst.keep [] rfl⟩
       ·have hl651 := ite_f hl651 hc753
        refine CW.cond_f rfl hc753 ?_
        refine CW.skip ?_
        refine QW.next ?_
        refine CW.region ?_
        refine OW.pure 4 [(81, .slice (some ⟨g51, 0, none⟩) 3 3), (83, .int .i64 (w64 (s652.2.2.2 - 1))), (84, .int .i64 r749.1)] (by kernel_rfl) ?_
        obtain ⟨x763, hx764, hl651⟩ := bind_some' hl651
        obtain ⟨g766, o767, c768, hv765⟩ := hst.rowv 3 rfl hx764
        refine OW.idx 2 1 rfl rfl rfl rfl hv765 rfl (idx_some hx764).1 (idx_some hx764).2.1 (by kernel_rfl) (by kernel_rfl) ?_
        refine OW.stR hst 3 rfl hv765 (fun _ => rfl) rfl rfl hx764 0 rfl rfl rfl (by kernel_rfl) rfl rfl r749.1 rfl ?_
        intro w769 hst
        refine OW.nil rfl ?_
        refine QW.block_normal ?_
        refine QW.next ?_
        refine CW.region ?_
        refine OW.pure 3 [(10, .int .i64 (w64 (s652.2.2.2 + 1)))] (by kernel_rfl) ?_
        refine OW.nil rfl ?_
        exact QW.meet (fun a ha => ⟨n650, Nat.lt_succ_self _, (s652.1, (s652.2.1.set (Int.toNat (w64 (s652.2.2.2 - 1))) r749.1), s652.2.2.1, w64 (s652.2.2.2 + 1)), ha.agrees (by kernel_rfl), hst.keep [0, 1, 2, 3, 4] rfl, hl651⟩)
    ·have hl651 := ite_f hl651 hc653
     refine CW.cond_f rfl hc653 ?_
     refine CW.exit ?_
     refine QW.then_exit ?_
     refine QW.then_exit ?_
     refine QW.block_here ?_
     obtain rfl := Option.some.inj hl651
     exact QW.meet (fun a ha => ⟨(s652.1, s652.2.1, s652.2.2.1), rfl, ha.agrees (by kernel_rfl), hst.keep [0, 2, 3, 4] rfl⟩)
   ·rintro a w1 ⟨t414, rfl, ha, hst⟩
    refine CW.go ?_ ha
    refine CW.seq ?_
    refine CW.region ?_
    refine OW.pure 2 [(87, .agg [.int .i64 r37.1, .int .i64 0, .int .i64 0, .int .i64 0, .int .i64 0].toArray)] (by kernel_rfl) ?_
    refine OW.alloc hst rfl rfl rfl [.int .i64 0, .int .i64 0, .int .i64 0, .int .i64 0, .int .i64 0] (by kernel_rfl) ?_
    intro b773 w774 hst
    refine OW.stB hst 4 rfl rfl rfl rfl rfl (by kernel_rfl) rfl rfl [.int .i64 r37.1, .int .i64 0, .int .i64 0, .int .i64 0, .int .i64 0] rfl ?_
    intro w775 hst
    refine OW.nil rfl ?_
    refine QW.next ?_
    refine CW.seq ?_
    refine CW.region ?_
    refine OW.pure 1 [(14, .int .i64 0)] (by kernel_rfl) ?_
    refine OW.nil rfl ?_
    refine QW.next ?_
    refine CW.seq ?_
    obtain ⟨o982, ho983, hF⟩ := bind_some' hF
    refine CW.cutK (fun a w1 => Rep 206 [(0, .string p0), (2, .pointer (some ⟨b3, 0, none⟩)), (7, .slice (some ⟨g47, 0, none⟩) 3 3), (8, .slice (some ⟨g51, 0, none⟩) 3 3), (9, .slice (some ⟨g55, 0, none⟩) 3 3), (13, .pointer (some ⟨b773, 0, none⟩)), (14, .int .i64 o982.2)] a ∧ St w (fp []) w1 [blkI b3 32 [.int .i64 0, .int .i64 0, .int .i64 0, .int .i64 0, .int .i64 0], rowI (.slice (some ⟨g47, 0, none⟩) 3 3) 3 (encInt .i64) 1 t414.1, rowI (.slice (some ⟨g51, 0, none⟩) 3 3) 2 (encInt .i64) 1 t414.2.1, rowI (.slice (some ⟨g55, 0, none⟩) 3 3) 4 encBool 1 t414.2.2, blkI b773 32 [.int .i64 o982.1.Op, .int .i64 o982.1.D, .int .i64 o982.1.A, .int .i64 o982.1.B, .int .i64 o982.1.Imm]]) ?_ ?_
    ·refine CW.block ?_
     refine CW.seq ?_
     refine CW.cutK (fun a w1 => Rep 206 [(0, .string p0), (2, .pointer (some ⟨b3, 0, none⟩)), (5, .int .i64 r37.1), (7, .slice (some ⟨g47, 0, none⟩) 3 3), (8, .slice (some ⟨g51, 0, none⟩) 3 3), (9, .slice (some ⟨g55, 0, none⟩) 3 3), (13, .pointer (some ⟨b773, 0, none⟩)), (14, .int .i64 0), (92, .bool ((r37.1 == 0) || (r37.1 == 11)))] a ∧ St w (fp []) w1 [blkI b3 32 [.int .i64 0, .int .i64 0, .int .i64 0, .int .i64 0, .int .i64 0], rowI (.slice (some ⟨g47, 0, none⟩) 3 3) 3 (encInt .i64) 1 t414.1, rowI (.slice (some ⟨g51, 0, none⟩) 3 3) 2 (encInt .i64) 1 t414.2.1, rowI (.slice (some ⟨g55, 0, none⟩) 3 3) 4 encBool 1 t414.2.2, blkI b773 32 [.int .i64 r37.1, .int .i64 0, .int .i64 0, .int .i64 0, .int .i64 0]]) ?_ ?_
     ·refine CW.region ?_
      refine OW.pure 3 [(95, .bool (r37.1 == 0))] (by kernel_rfl) ?_
      refine OW.split 95 rfl (fun hc984 => ?_) (fun hc984 => ?_)
      ·refine OW.pure 4 [(92, .bool true)] (by kernel_rfl) ?_
       refine OW.nil rfl ?_
       refine QW.say 92 (v := .bool ((r37.1 == 0) || (r37.1 == 11))) rfl (by first | (rw [hc984]; done) | (rw [hc984]; rfl) | simp [hc984]) ?_
       exact QW.meet (fun a ha => ⟨ha.agrees (by kernel_rfl), hst.keep [0, 1, 2, 3, 4] rfl⟩)
      ·refine OW.pure 4 [(92, .bool (r37.1 == 11))] (by kernel_rfl) ?_
       refine OW.nil rfl ?_
       refine QW.say 92 (v := .bool ((r37.1 == 0) || (r37.1 == 11))) rfl (by first | (rw [hc984]; done) | (rw [hc984]; rfl) | simp [hc984]) ?_
       exact QW.meet (fun a ha => ⟨ha.agrees (by kernel_rfl), hst.keep [0, 1, 2, 3, 4] rfl⟩)
     ·rintro a w1 ⟨ha, hst⟩
      refine CW.go ?_ ha
      rcases Bool.eq_false_or_eq_true (((r37.1 == 0) || (r37.1 == 11))) with hc985 | hc985
      ·have ho983 := ite_t ho983 hc985
       refine CW.cond_t rfl hc985 ?_
       refine CW.seq ?_
       refine CW.region ?_
       refine OW.pure 1 [(99, .slice (some ⟨g47, 0, none⟩) 3 3)] (by kernel_rfl) ?_
       obtain ⟨x993, hx994, ho983⟩ := bind_some' ho983
       obtain ⟨g996, o997, c998, hv995⟩ := hst.rowv 1 rfl hx994
       refine OW.idx 3 1 rfl rfl rfl rfl hv995 rfl (idx_some hx994).1 (idx_some hx994).2.1 (by kernel_rfl) (by kernel_rfl) ?_
       refine OW.ld rfl rfl rfl rfl (by kernel_rfl) (hst.rowc 1 rfl (fun _ => rfl) hx994 hv995 0 _ rfl) ?_
       refine OW.pure 1 [(102, .pointer (some ⟨b773, 1, none⟩))] (by kernel_rfl) ?_
       refine OW.stB hst 4 rfl rfl rfl rfl rfl (by kernel_rfl) rfl rfl [.int .i64 r37.1, .int .i64 x993, .int .i64 0, .int .i64 0, .int .i64 0] rfl ?_
       intro w999 hst
       refine OW.nil rfl ?_
       refine QW.next ?_
       refine CW.region ?_
       refine OW.pure 1 [(14, .int .i64 1)] (by kernel_rfl) ?_
       refine OW.nil rfl ?_
       refine QW.block_normal ?_
       obtain rfl := Option.some.inj ho983
       exact QW.meet (fun a ha => ⟨ha.agrees (by kernel_rfl), hst.keep [0, 1, 2, 3, 4] rfl⟩)
      ·have ho983 := ite_f ho983 hc985
       refine CW.cond_f rfl hc985 ?_
       refine CW.seq ?_
       refine CW.region ?_
       refine OW.pure 3 [(103, .bool (decide (r37.1 ≤ 10)))] (by kernel_rfl) ?_
       refine OW.nil rfl ?_
       refine QW.next ?_
       rcases Bool.eq_false_or_eq_true (decide (r37.1 ≤ 10)) with hc1000 | hc1000
       ·have ho983 := ite_t ho983 hc1000
        refine CW.cond_t rfl hc1000 ?_
        refine CW.seq ?_
        refine CW.region ?_
        refine OW.pure 1 [(106, .slice (some ⟨g47, 0, none⟩) 3 3)] (by kernel_rfl) ?_
        obtain ⟨x1008, hx1009, ho983⟩ := bind_some' ho983
        obtain ⟨g1011, o1012, c1013, hv1010⟩ := hst.rowv 1 rfl hx1009
        refine OW.idx 3 1 rfl rfl rfl rfl hv1010 rfl (idx_some hx1009).1 (idx_some hx1009).2.1 (by kernel_rfl) (by kernel_rfl) ?_
        refine OW.ld rfl rfl rfl rfl (by kernel_rfl) (hst.rowc 1 rfl (fun _ => rfl) hx1009 hv1010 0 _ rfl) ?_
        refine OW.pure 1 [(109, .pointer (some ⟨b773, 1, none⟩))] (by kernel_rfl) ?_
        refine OW.stB hst 4 rfl rfl rfl rfl rfl (by kernel_rfl) rfl rfl [.int .i64 r37.1, .int .i64 x1008, .int .i64 0, .int .i64 0, .int .i64 0] rfl ?_
        intro w1014 hst
        refine OW.nil rfl ?_
        refine QW.next ?_
        refine CW.seq ?_
        refine CW.region ?_
        refine OW.pure 1 [(110, .slice (some ⟨g47, 0, none⟩) 3 3)] (by kernel_rfl) ?_
        obtain ⟨x1022, hx1023, ho983⟩ := bind_some' ho983
        obtain ⟨g1025, o1026, c1027, hv1024⟩ := hst.rowv 1 rfl hx1023
        refine OW.idx 3 1 rfl rfl rfl rfl hv1024 rfl (idx_some hx1023).1 (idx_some hx1023).2.1 (by kernel_rfl) (by kernel_rfl) ?_
        refine OW.ld rfl rfl rfl rfl (by kernel_rfl) (hst.rowc 1 rfl (fun _ => rfl) hx1023 hv1024 0 _ rfl) ?_
        refine OW.pure 1 [(113, .pointer (some ⟨b773, 2, none⟩))] (by kernel_rfl) ?_
        refine OW.stB hst 4 rfl rfl rfl rfl rfl (by kernel_rfl) rfl rfl [.int .i64 r37.1, .int .i64 x1008, .int .i64 x1022, .int .i64 0, .int .i64 0] rfl ?_
        intro w1028 hst
        refine OW.nil rfl ?_
        refine QW.next ?_
        refine CW.region ?_
        refine OW.pure 1 [(14, .int .i64 2)] (by kernel_rfl) ?_
        refine OW.nil rfl ?_
        refine QW.block_normal ?_
        obtain rfl := Option.some.inj ho983
        exact QW.meet (fun a ha => ⟨ha.agrees (by kernel_rfl), hst.keep [0, 1, 2, 3, 4] rfl⟩)
       ·have ho983 := ite_f ho983 hc1000
        refine CW.cond_f rfl hc1000 ?_
        refine CW.seq ?_
        refine CW.region ?_
        refine OW.pure 3 [(114, .bool (r37.1 == 12))] (by kernel_rfl) ?_
        refine OW.nil rfl ?_
        refine QW.next ?_
        rcases Bool.eq_false_or_eq_true ((r37.1 == 12)) with hc1029 | hc1029
        ·have ho983 := ite_t ho983 hc1029
         refine CW.cond_t rfl hc1029 ?_
         refine CW.seq ?_
         refine CW.region ?_
         refine OW.pure 1 [(117, .slice (some ⟨g47, 0, none⟩) 3 3)] (by kernel_rfl) ?_
         obtain ⟨x1037, hx1038, ho983⟩ := bind_some' ho983
         obtain ⟨g1040, o1041, c1042, hv1039⟩ := hst.rowv 1 rfl hx1038
         refine OW.idx 3 1 rfl rfl rfl rfl hv1039 rfl (idx_some hx1038).1 (idx_some hx1038).2.1 (by kernel_rfl) (by kernel_rfl) ?_
         refine OW.ld rfl rfl rfl rfl (by kernel_rfl) (hst.rowc 1 rfl (fun _ => rfl) hx1038 hv1039 0 _ rfl) ?_
         refine OW.pure 1 [(120, .pointer (some ⟨b773, 2, none⟩))] (by kernel_rfl) ?_
         refine OW.stB hst 4 rfl rfl rfl rfl rfl (by kernel_rfl) rfl rfl [.int .i64 r37.1, .int .i64 0, .int .i64 x1037, .int .i64 0, .int .i64 0] rfl ?_
         intro w1043 hst
         refine OW.nil rfl ?_
         refine QW.next ?_
         refine CW.region ?_
         refine OW.pure 1 [(14, .int .i64 1)] (by kernel_rfl) ?_
         refine OW.nil rfl ?_
         refine QW.block_normal ?_
         obtain rfl := Option.some.inj ho983
         exact QW.meet (fun a ha => ⟨ha.agrees (by kernel_rfl), hst.keep [0, 1, 2, 3, 4] rfl⟩)
        ·have ho983 := ite_f ho983 hc1029
         refine CW.cond_f rfl hc1029 ?_
         refine CW.seq ?_
         refine CW.cutK (fun a w1 => Rep 206 [(0, .string p0), (2, .pointer (some ⟨b3, 0, none⟩)), (5, .int .i64 r37.1), (7, .slice (some ⟨g47, 0, none⟩) 3 3), (8, .slice (some ⟨g51, 0, none⟩) 3 3), (9, .slice (some ⟨g55, 0, none⟩) 3 3), (13, .pointer (some ⟨b773, 0, none⟩)), (14, .int .i64 0), (121, .bool ((r37.1 == 13) || (r37.1 == 14)))] a ∧ St w (fp []) w1 [blkI b3 32 [.int .i64 0, .int .i64 0, .int .i64 0, .int .i64 0, .int .i64 0], rowI (.slice (some ⟨g47, 0, none⟩) 3 3) 3 (encInt .i64) 1 t414.1, rowI (.slice (some ⟨g51, 0, none⟩) 3 3) 2 (encInt .i64) 1 t414.2.1, rowI (.slice (some ⟨g55, 0, none⟩) 3 3) 4 encBool 1 t414.2.2, blkI b773 32 [.int .i64 r37.1, .int .i64 0, .int .i64 0, .int .i64 0, .int .i64 0]]) ?_ ?_
         ·refine CW.region ?_
          refine OW.pure 3 [(124, .bool (r37.1 == 13))] (by kernel_rfl) ?_
          refine OW.split 124 rfl (fun hc1044 => ?_) (fun hc1044 => ?_)
          ·refine OW.pure 4 [(121, .bool true)] (by kernel_rfl) ?_
           refine OW.nil rfl ?_
           refine QW.say 121 (v := .bool ((r37.1 == 13) || (r37.1 == 14))) rfl (by first | (rw [hc1044]; done) | (rw [hc1044]; rfl) | simp [hc1044]) ?_
           exact QW.meet (fun a ha => ⟨ha.agrees (by kernel_rfl), hst.keep [0, 1, 2, 3, 4] rfl⟩)
          ·refine OW.pure 4 [(121, .bool (r37.1 == 14))] (by kernel_rfl) ?_
           refine OW.nil rfl ?_
           refine QW.say 121 (v := .bool ((r37.1 == 13) || (r37.1 == 14))) rfl (by first | (rw [hc1044]; done) | (rw [hc1044]; rfl) | simp [hc1044]) ?_
           exact QW.meet (fun a ha => ⟨ha.agrees (by kernel_rfl), hst.keep [0, 1, 2, 3, 4] rfl⟩)
         ·rintro a w1 ⟨ha, hst⟩
          refine CW.go ?_ ha
          rcases Bool.eq_false_or_eq_true (((r37.1 == 13) || (r37.1 == 14))) with hc1045 | hc1045
          ·have ho983 := ite_t ho983 hc1045
           refine CW.cond_t rfl hc1045 ?_
           refine CW.seq ?_
           refine CW.region ?_
           refine OW.pure 1 [(128, .slice (some ⟨g47, 0, none⟩) 3 3)] (by kernel_rfl) ?_
           obtain ⟨x1053, hx1054, ho983⟩ := bind_some' ho983
           obtain ⟨g1056, o1057, c1058, hv1055⟩ := hst.rowv 1 rfl hx1054
           refine OW.idx 3 1 rfl rfl rfl rfl hv1055 rfl (idx_some hx1054).1 (idx_some hx1054).2.1 (by kernel_rfl) (by kernel_rfl) ?_
           refine OW.ld rfl rfl rfl rfl (by kernel_rfl) (hst.rowc 1 rfl (fun _ => rfl) hx1054 hv1055 0 _ rfl) ?_
           refine OW.pure 1 [(131, .pointer (some ⟨b773, 1, none⟩))] (by kernel_rfl) ?_
           refine OW.stB hst 4 rfl rfl rfl rfl rfl (by kernel_rfl) rfl rfl [.int .i64 r37.1, .int .i64 x1053, .int .i64 0, .int .i64 0, .int .i64 0] rfl ?_
           intro w1059 hst
           refine OW.nil rfl ?_
           refine QW.next ?_
           refine CW.region ?_
           refine OW.pure 1 [(132, .slice (some ⟨g51, 0, none⟩) 3 3)] (by kernel_rfl) ?_
           obtain ⟨x1067, hx1068, ho983⟩ := bind_some' ho983
           obtain ⟨g1070, o1071, c1072, hv1069⟩ := hst.rowv 2 rfl hx1068
           refine OW.idx 2 1 rfl rfl rfl rfl hv1069 rfl (idx_some hx1068).1 (idx_some hx1068).2.1 (by kernel_rfl) (by kernel_rfl) ?_
           refine OW.ld rfl rfl rfl rfl (by kernel_rfl) (hst.rowc 2 rfl (fun _ => rfl) hx1068 hv1069 0 _ rfl) ?_
           refine OW.pure 1 [(135, .pointer (some ⟨b773, 4, none⟩))] (by kernel_rfl) ?_
           refine OW.stB hst 4 rfl rfl rfl rfl rfl (by kernel_rfl) rfl rfl [.int .i64 r37.1, .int .i64 x1053, .int .i64 0, .int .i64 0, .int .i64 x1067] rfl ?_
           intro w1073 hst
           refine OW.nil rfl ?_
           refine QW.block_normal ?_
           obtain rfl := Option.some.inj ho983
           exact QW.meet (fun a ha => ⟨ha.agrees (by kernel_rfl), hst.keep [0, 1, 2, 3, 4] rfl⟩)
          ·have ho983 := ite_f ho983 hc1045
           refine CW.cond_f rfl hc1045 ?_
           refine CW.seq ?_
           refine CW.region ?_
           refine OW.pure 3 [(136, .bool (r37.1 == 15))] (by kernel_rfl) ?_
           refine OW.nil rfl ?_
           refine QW.next ?_
           rcases Bool.eq_false_or_eq_true ((r37.1 == 15)) with hc1074 | hc1074
           ·have ho983 := ite_t ho983 hc1074
            refine CW.cond_t rfl hc1074 ?_
            refine CW.region ?_
            refine OW.pure 1 [(139, .slice (some ⟨g51, 0, none⟩) 3 3)] (by kernel_rfl) ?_
            obtain ⟨x1082, hx1083, ho983⟩ := bind_some' ho983
            obtain ⟨g1085, o1086, c1087, hv1084⟩ := hst.rowv 2 rfl hx1083
            refine OW.idx 2 1 rfl rfl rfl rfl hv1084 rfl (idx_some hx1083).1 (idx_some hx1083).2.1 (by kernel_rfl) (by kernel_rfl) ?_
            refine OW.ld rfl rfl rfl rfl (by kernel_rfl) (hst.rowc 2 rfl (fun _ => rfl) hx1083 hv1084 0 _ rfl) ?_
            refine OW.pure 1 [(142, .pointer (some ⟨b773, 1, none⟩))] (by kernel_rfl) ?_
            refine OW.stB hst 4 rfl rfl rfl rfl rfl (by kernel_rfl) rfl rfl [.int .i64 r37.1, .int .i64 x1082, .int .i64 0, .int .i64 0, .int .i64 0] rfl ?_
            intro w1088 hst
            refine OW.nil rfl ?_
            refine QW.block_normal ?_
            obtain rfl := Option.some.inj ho983
            exact QW.meet (fun a ha => ⟨ha.agrees (by kernel_rfl), hst.keep [0, 1, 2, 3, 4] rfl⟩)
           ·have ho983 := ite_f ho983 hc1074
            refine CW.cond_f rfl hc1074 ?_
            refine CW.seq ?_
            refine CW.region ?_
            refine OW.pure 3 [(143, .bool (decide (r37.1 ≤ 19)))] (by kernel_rfl) ?_
            refine OW.nil rfl ?_
            refine QW.next ?_
            rcases Bool.eq_false_or_eq_true (decide (r37.1 ≤ 19)) with hc1089 | hc1089
            ·have ho983 := ite_t ho983 hc1089
             refine CW.cond_t rfl hc1089 ?_
             refine CW.seq ?_
             refine CW.region ?_
             refine OW.pure 1 [(146, .slice (some ⟨g47, 0, none⟩) 3 3)] (by kernel_rfl) ?_
             obtain ⟨x1097, hx1098, ho983⟩ := bind_some' ho983
             obtain ⟨g1100, o1101, c1102, hv1099⟩ := hst.rowv 1 rfl hx1098
             refine OW.idx 3 1 rfl rfl rfl rfl hv1099 rfl (idx_some hx1098).1 (idx_some hx1098).2.1 (by kernel_rfl) (by kernel_rfl) ?_
             refine OW.ld rfl rfl rfl rfl (by kernel_rfl) (hst.rowc 1 rfl (fun _ => rfl) hx1098 hv1099 0 _ rfl) ?_
             refine OW.pure 1 [(149, .pointer (some ⟨b773, 2, none⟩))] (by kernel_rfl) ?_
             refine OW.stB hst 4 rfl rfl rfl rfl rfl (by kernel_rfl) rfl rfl [.int .i64 r37.1, .int .i64 0, .int .i64 x1097, .int .i64 0, .int .i64 0] rfl ?_
             intro w1103 hst
             refine OW.nil rfl ?_
             refine QW.next ?_
             refine CW.seq ?_
             refine CW.region ?_
             refine OW.pure 1 [(150, .slice (some ⟨g51, 0, none⟩) 3 3)] (by kernel_rfl) ?_
             obtain ⟨x1111, hx1112, ho983⟩ := bind_some' ho983
             obtain ⟨g1114, o1115, c1116, hv1113⟩ := hst.rowv 2 rfl hx1112
             refine OW.idx 2 1 rfl rfl rfl rfl hv1113 rfl (idx_some hx1112).1 (idx_some hx1112).2.1 (by kernel_rfl) (by kernel_rfl) ?_
             refine OW.ld rfl rfl rfl rfl (by kernel_rfl) (hst.rowc 2 rfl (fun _ => rfl) hx1112 hv1113 0 _ rfl) ?_
             refine OW.pure 1 [(153, .pointer (some ⟨b773, 1, none⟩))] (by kernel_rfl) ?_
             refine OW.stB hst 4 rfl rfl rfl rfl rfl (by kernel_rfl) rfl rfl [.int .i64 r37.1, .int .i64 x1111, .int .i64 x1097, .int .i64 0, .int .i64 0] rfl ?_
             intro w1117 hst
             refine OW.nil rfl ?_
             refine QW.next ?_
             refine CW.region ?_
             refine OW.pure 1 [(14, .int .i64 1)] (by kernel_rfl) ?_
             refine OW.nil rfl ?_
             refine QW.block_normal ?_
             obtain rfl := Option.some.inj ho983
             exact QW.meet (fun a ha => ⟨ha.agrees (by kernel_rfl), hst.keep [0, 1, 2, 3, 4] rfl⟩)
            ·have ho983 := ite_f ho983 hc1089
             refine CW.cond_f rfl hc1089 ?_
             refine CW.seq ?_
             refine CW.region ?_
             refine OW.pure 3 [(154, .bool (r37.1 == 20))] (by kernel_rfl) ?_
             refine OW.nil rfl ?_
             refine QW.next ?_
             rcases Bool.eq_false_or_eq_true ((r37.1 == 20)) with hc1118 | hc1118
             ·have ho983 := ite_t ho983 hc1118
              refine CW.cond_t rfl hc1118 ?_
              refine CW.seq ?_
              refine CW.region ?_
              refine OW.pure 1 [(157, .slice (some ⟨g47, 0, none⟩) 3 3)] (by kernel_rfl) ?_
              obtain ⟨x1126, hx1127, ho983⟩ := bind_some' ho983
              obtain ⟨g1129, o1130, c1131, hv1128⟩ := hst.rowv 1 rfl hx1127
              refine OW.idx 3 1 rfl rfl rfl rfl hv1128 rfl (idx_some hx1127).1 (idx_some hx1127).2.1 (by kernel_rfl) (by kernel_rfl) ?_
              refine OW.ld rfl rfl rfl rfl (by kernel_rfl) (hst.rowc 1 rfl (fun _ => rfl) hx1127 hv1128 0 _ rfl) ?_
              refine OW.pure 1 [(160, .pointer (some ⟨b773, 2, none⟩))] (by kernel_rfl) ?_
              refine OW.stB hst 4 rfl rfl rfl rfl rfl (by kernel_rfl) rfl rfl [.int .i64 r37.1, .int .i64 0, .int .i64 x1126, .int .i64 0, .int .i64 0] rfl ?_
              intro w1132 hst
              refine OW.nil rfl ?_
              refine QW.next ?_
              refine CW.seq ?_
              refine CW.region ?_
              refine OW.pure 1 [(161, .slice (some ⟨g51, 0, none⟩) 3 3)] (by kernel_rfl) ?_
              obtain ⟨x1140, hx1141, ho983⟩ := bind_some' ho983
              obtain ⟨g1143, o1144, c1145, hv1142⟩ := hst.rowv 2 rfl hx1141
              refine OW.idx 2 1 rfl rfl rfl rfl hv1142 rfl (idx_some hx1141).1 (idx_some hx1141).2.1 (by kernel_rfl) (by kernel_rfl) ?_
              refine OW.ld rfl rfl rfl rfl (by kernel_rfl) (hst.rowc 2 rfl (fun _ => rfl) hx1141 hv1142 0 _ rfl) ?_
              refine OW.pure 1 [(164, .pointer (some ⟨b773, 1, none⟩))] (by kernel_rfl) ?_
              refine OW.stB hst 4 rfl rfl rfl rfl rfl (by kernel_rfl) rfl rfl [.int .i64 r37.1, .int .i64 x1140, .int .i64 x1126, .int .i64 0, .int .i64 0] rfl ?_
              intro w1146 hst
              refine OW.nil rfl ?_
              refine QW.next ?_
              refine CW.region ?_
              refine OW.pure 1 [(165, .slice (some ⟨g51, 0, none⟩) 3 3)] (by kernel_rfl) ?_
              obtain ⟨x1154, hx1155, ho983⟩ := bind_some' ho983
              obtain ⟨g1157, o1158, c1159, hv1156⟩ := hst.rowv 2 rfl hx1155
              refine OW.idx 2 1 rfl rfl rfl rfl hv1156 rfl (idx_some hx1155).1 (idx_some hx1155).2.1 (by kernel_rfl) (by kernel_rfl) ?_
              refine OW.ld rfl rfl rfl rfl (by kernel_rfl) (hst.rowc 2 rfl (fun _ => rfl) hx1155 hv1156 0 _ rfl) ?_
              refine OW.pure 1 [(168, .pointer (some ⟨b773, 4, none⟩))] (by kernel_rfl) ?_
              refine OW.stB hst 4 rfl rfl rfl rfl rfl (by kernel_rfl) rfl rfl [.int .i64 r37.1, .int .i64 x1140, .int .i64 x1126, .int .i64 0, .int .i64 x1154] rfl ?_
              intro w1160 hst
              refine OW.nil rfl ?_
              refine QW.block_normal ?_
              obtain rfl := Option.some.inj ho983
              exact QW.meet (fun a ha => ⟨ha.agrees (by kernel_rfl), hst.keep [0, 1, 2, 3, 4] rfl⟩)
             ·have ho983 := ite_f ho983 hc1118
              refine CW.cond_f rfl hc1118 ?_
              refine CW.seq ?_
              refine CW.region ?_
              refine OW.pure 3 [(169, .bool (r37.1 == 21))] (by kernel_rfl) ?_
              refine OW.nil rfl ?_
              refine QW.next ?_
              rcases Bool.eq_false_or_eq_true ((r37.1 == 21)) with hc1161 | hc1161
              ·have ho983 := ite_t ho983 hc1161
               refine CW.cond_t rfl hc1161 ?_
               refine CW.region ?_
               refine OW.pure 1 [(172, .slice (some ⟨g51, 0, none⟩) 3 3)] (by kernel_rfl) ?_
               obtain ⟨x1169, hx1170, ho983⟩ := bind_some' ho983
               obtain ⟨g1172, o1173, c1174, hv1171⟩ := hst.rowv 2 rfl hx1170
               refine OW.idx 2 1 rfl rfl rfl rfl hv1171 rfl (idx_some hx1170).1 (idx_some hx1170).2.1 (by kernel_rfl) (by kernel_rfl) ?_
               refine OW.ld rfl rfl rfl rfl (by kernel_rfl) (hst.rowc 2 rfl (fun _ => rfl) hx1170 hv1171 0 _ rfl) ?_
               refine OW.pure 1 [(175, .pointer (some ⟨b773, 4, none⟩))] (by kernel_rfl) ?_
               refine OW.stB hst 4 rfl rfl rfl rfl rfl (by kernel_rfl) rfl rfl [.int .i64 r37.1, .int .i64 0, .int .i64 0, .int .i64 0, .int .i64 x1169] rfl ?_
               intro w1175 hst
               refine OW.nil rfl ?_
               refine QW.block_normal ?_
               obtain rfl := Option.some.inj ho983
               exact QW.meet (fun a ha => ⟨ha.agrees (by kernel_rfl), hst.keep [0, 1, 2, 3, 4] rfl⟩)
              ·have ho983 := ite_f ho983 hc1161
               refine CW.cond_f rfl hc1161 ?_
               refine CW.region ?_
               refine OW.pure 1 [(88, .slice (some ⟨g47, 0, none⟩) 3 3)] (by kernel_rfl) ?_
               obtain ⟨x1183, hx1184, ho983⟩ := bind_some' ho983
               obtain ⟨g1186, o1187, c1188, hv1185⟩ := hst.rowv 1 rfl hx1184
               refine OW.idx 3 1 rfl rfl rfl rfl hv1185 rfl (idx_some hx1184).1 (idx_some hx1184).2.1 (by kernel_rfl) (by kernel_rfl) ?_
               refine OW.ld rfl rfl rfl rfl (by kernel_rfl) (hst.rowc 1 rfl (fun _ => rfl) hx1184 hv1185 0 _ rfl) ?_
               refine OW.pure 1 [(91, .pointer (some ⟨b773, 2, none⟩))] (by kernel_rfl) ?_
               refine OW.stB hst 4 rfl rfl rfl rfl rfl (by kernel_rfl) rfl rfl [.int .i64 r37.1, .int .i64 0, .int .i64 x1183, .int .i64 0, .int .i64 0] rfl ?_
               intro w1189 hst
               refine OW.nil rfl ?_
               refine QW.block_normal ?_
               obtain rfl := Option.some.inj ho983
               exact QW.meet (fun a ha => ⟨ha.agrees (by kernel_rfl), hst.keep [0, 1, 2, 3, 4] rfl⟩)
    ·rintro a w1 ⟨ha, hst⟩
     refine CW.go ?_ ha
     refine CW.seq ?_
     refine CW.seq ?_
     obtain ⟨o1197, ho1198, hF⟩ := bind_some' hF
     refine CW.cutK (fun a w1 => Rep 206 [(0, .string p0), (2, .pointer (some ⟨b3, 0, none⟩)), (7, .slice (some ⟨g47, 0, none⟩) 3 3), (8, .slice (some ⟨g51, 0, none⟩) 3 3), (13, .pointer (some ⟨b773, 0, none⟩)), (14, .int .i64 o982.2), (183, .bool o1197)] a ∧ St w (fp []) w1 [blkI b3 32 [.int .i64 0, .int .i64 0, .int .i64 0, .int .i64 0, .int .i64 0], rowI (.slice (some ⟨g47, 0, none⟩) 3 3) 3 (encInt .i64) 1 t414.1, rowI (.slice (some ⟨g51, 0, none⟩) 3 3) 2 (encInt .i64) 1 t414.2.1, blkI b773 32 [.int .i64 o982.1.Op, .int .i64 o982.1.D, .int .i64 o982.1.A, .int .i64 o982.1.B, .int .i64 o982.1.Imm]]) ?_ ?_
     ·refine CW.region ?_
      refine OW.pure 3 [(178, .bool (decide (o982.2 > 0)))] (by kernel_rfl) ?_
      refine OW.split 178 rfl (fun hc1199 => ?_) (fun hc1199 => ?_)
      ·have ho1198 := ite_t ho1198 hc1199
       refine OW.pure 2 [(179, .slice (some ⟨g55, 0, none⟩) 3 3), (180, .int .i64 o982.2)] (by kernel_rfl) ?_
       obtain ⟨x1200, hx1201, ho1198⟩ := bind_some' ho1198
       obtain ⟨g1203, o1204, c1205, hv1202⟩ := hst.rowv 3 rfl hx1201
       refine OW.idx 4 1 rfl rfl rfl rfl hv1202 rfl (idx_some hx1201).1 (idx_some hx1201).2.1 (by kernel_rfl) (by kernel_rfl) ?_
       refine OW.ld rfl rfl rfl rfl (by kernel_rfl) (hst.rowc 3 rfl (fun _ => rfl) hx1201 hv1202 0 _ rfl) ?_
       refine OW.pure 1 [(183, .bool x1200)] (by kernel_rfl) ?_
       refine OW.nil rfl ?_
       obtain rfl := Option.some.inj ho1198
       exact QW.meet (fun a ha => ⟨ha.agrees (by kernel_rfl), hst.keep [0, 1, 2, 4] rfl⟩)
      ·have ho1198 := ite_f ho1198 hc1199
       refine OW.pure 5 [(183, .bool false)] (by kernel_rfl) ?_
       refine OW.nil rfl ?_
       obtain rfl := Option.some.inj ho1198
       exact QW.meet (fun a ha => ⟨ha.agrees (by kernel_rfl), hst.keep [0, 1, 2, 4] rfl⟩)
     ·rintro a w1 ⟨ha, hst⟩
      refine CW.go ?_ ha
      obtain ⟨o1238, ho1239, hF⟩ := bind_some' hF
      refine CW.cutK (fun a w1 => Rep 206 [(0, .string p0), (2, .pointer (some ⟨b3, 0, none⟩)), (13, .pointer (some ⟨b773, 0, none⟩))] a ∧ St w (fp []) w1 [blkI b3 32 [.int .i64 0, .int .i64 0, .int .i64 0, .int .i64 0, .int .i64 0], blkI b773 32 [.int .i64 o1238.Op, .int .i64 o1238.D, .int .i64 o1238.A, .int .i64 o1238.B, .int .i64 o1238.Imm]]) ?_ ?_
      ·rcases Bool.eq_false_or_eq_true (o1197) with hc1240 | hc1240
       ·have ho1239 := ite_t ho1239 hc1240
        refine CW.cond_t rfl hc1240 ?_
        refine CW.region ?_
        refine OW.pure 2 [(184, .slice (some ⟨g47, 0, none⟩) 3 3), (185, .int .i64 o982.2)] (by kernel_rfl) ?_
        obtain ⟨x1248, hx1249, ho1239⟩ := bind_some' ho1239
        obtain ⟨g1251, o1252, c1253, hv1250⟩ := hst.rowv 1 rfl hx1249
        refine OW.idx 3 1 rfl rfl rfl rfl hv1250 rfl (idx_some hx1249).1 (idx_some hx1249).2.1 (by kernel_rfl) (by kernel_rfl) ?_
        refine OW.ld rfl rfl rfl rfl (by kernel_rfl) (hst.rowc 1 rfl (fun _ => rfl) hx1249 hv1250 0 _ rfl) ?_
        refine OW.pure 1 [(188, .pointer (some ⟨b773, 3, none⟩))] (by kernel_rfl) ?_
        refine OW.stB hst 3 rfl rfl rfl rfl rfl (by kernel_rfl) rfl rfl [.int .i64 o982.1.Op, .int .i64 o982.1.D, .int .i64 o982.1.A, .int .i64 x1248, .int .i64 o982.1.Imm] rfl ?_
        intro w1254 hst
        refine OW.nil rfl ?_
        obtain rfl := Option.some.inj ho1239
        exact QW.meet (fun a ha => ⟨ha.agrees (by kernel_rfl), hst.keep [0, 3] rfl⟩)
       ·have ho1239 := ite_f ho1239 hc1240
        refine CW.cond_f rfl hc1240 ?_
        refine CW.seq ?_
        refine CW.region ?_
        refine OW.pure 2 [(190, .bool (decide (o982.2 > 0)))] (by kernel_rfl) ?_
        refine OW.nil rfl ?_
        refine QW.next ?_
        rcases Bool.eq_false_or_eq_true (decide (o982.2 > 0)) with hc1255 | hc1255
        ·have ho1239 := ite_t ho1239 hc1255
         refine CW.cond_t rfl hc1255 ?_
         refine CW.seq ?_
         refine CW.region ?_
         refine OW.pure 1 [(191, .pointer (some ⟨b773, 3, none⟩))] (by kernel_rfl) ?_
         refine OW.stB hst 3 rfl rfl rfl rfl rfl (by kernel_rfl) rfl rfl [.int .i64 o982.1.Op, .int .i64 o982.1.D, .int .i64 o982.1.A, .int .i64 8, .int .i64 o982.1.Imm] rfl ?_
         intro w1257 hst
         refine OW.nil rfl ?_
         refine QW.next ?_
         refine CW.region ?_
         refine OW.pure 2 [(192, .slice (some ⟨g51, 0, none⟩) 3 3), (193, .int .i64 o982.2)] (by kernel_rfl) ?_
         obtain ⟨x1265, hx1266, ho1239⟩ := bind_some' ho1239
         obtain ⟨g1268, o1269, c1270, hv1267⟩ := hst.rowv 2 rfl hx1266
         refine OW.idx 2 1 rfl rfl rfl rfl hv1267 rfl (idx_some hx1266).1 (idx_some hx1266).2.1 (by kernel_rfl) (by kernel_rfl) ?_
         refine OW.ld rfl rfl rfl rfl (by kernel_rfl) (hst.rowc 2 rfl (fun _ => rfl) hx1266 hv1267 0 _ rfl) ?_
         refine OW.pure 1 [(196, .pointer (some ⟨b773, 4, none⟩))] (by kernel_rfl) ?_
         refine OW.stB hst 3 rfl rfl rfl rfl rfl (by kernel_rfl) rfl rfl [.int .i64 o982.1.Op, .int .i64 o982.1.D, .int .i64 o982.1.A, .int .i64 8, .int .i64 x1265] rfl ?_
         intro w1271 hst
         refine OW.nil rfl ?_
         obtain rfl := Option.some.inj ho1239
         exact QW.meet (fun a ha => ⟨ha.agrees (by kernel_rfl), hst.keep [0, 3] rfl⟩)
        ·have ho1239 := ite_f ho1239 hc1255
         refine CW.cond_f rfl hc1255 ?_
         refine CW.skip ?_
         obtain rfl := Option.some.inj ho1239
         exact QW.meet (fun a ha => ⟨ha.agrees (by kernel_rfl), hst.keep [0, 3] rfl⟩)
      ·rintro a w1 ⟨ha, hst⟩
       refine CW.go ?_ ha
       refine CW.seq ?_
       obtain ⟨o1291, ho1292, hF⟩ := bind_some' hF
       refine CW.cutK (fun a w1 => Rep 206 [(2, .pointer (some ⟨b3, 0, none⟩)), (3, .bool o1291)] a ∧ St w (fp []) w1 [blkI b3 32 [.int .i64 o1238.Op, .int .i64 o1238.D, .int .i64 o1238.A, .int .i64 o1238.B, .int .i64 o1238.Imm]]) ?_ ?_
       ·refine CW.plan (by kernel_rfl) ?_
        intro w1293 hch1294
        have hst := hst.same hch1294
        refine OA.ldN (i := 0) (cs := [.int .i64 o1238.Op, .int .i64 o1238.D, .int .i64 o1238.A, .int .i64 o1238.B, .int .i64 o1238.Imm]) rfl (by kernel_rfl) rfl rfl rfl (by kernel_rfl) (by kernel_rfl) (hst.blkN 1 rfl 0 5) ?_
        refine OA.ldN (i := 1) (cs := [.int .i64 o1238.Op, .int .i64 o1238.D, .int .i64 o1238.A, .int .i64 o1238.B, .int .i64 o1238.Imm]) rfl (by kernel_rfl) rfl rfl rfl (by kernel_rfl) (by kernel_rfl) (hst.blkN 1 rfl 0 5) ?_
        refine OA.act (i := 2) [0] (by kernel_rfl) rfl rfl (by kernel_rfl) (by kernel_rfl) ?_
        obtain ⟨r1295, hr1296, ho1292⟩ := bind_some' ho1292
        refine OW.fn rfl rfl rfl rfl (by kernel_rfl) (tappetref02_Right_ok _ o1238 r1295 hr1296 (hst.part [] rfl)) ?_
        rintro e w1297 ⟨rfl, hst1298⟩
        refine ⟨_, rfl, ?_⟩
        have hst := hst.join (idx := []) (rest := [0, 1]) rfl hst1298
        refine OA.next ⟨(hst.blkN 1 rfl 0 5), trivial⟩ ?_
        refine OA.pure [3] [(200, .bool r1295)] (by kernel_rfl) ?_
        refine OA.split 200 rfl (fun hc1299 => ?_) (fun hc1299 => ?_)
        ·have ho1292 := ite_t ho1292 hc1299
         refine OA.ldN (i := 4) (cs := [.int .i64 o1238.Op, .int .i64 o1238.D, .int .i64 o1238.A, .int .i64 o1238.B, .int .i64 o1238.Imm]) rfl (by kernel_rfl) rfl rfl rfl (by kernel_rfl) (by kernel_rfl) (hst.blkN 1 rfl 0 5) ?_
         refine OA.pure [6] [(203, .string p0)] (by kernel_rfl) ?_
         refine OA.act (i := 5) [0] (by kernel_rfl) rfl rfl (by kernel_rfl) (by kernel_rfl) ?_
         obtain ⟨r1300, hr1301, ho1292⟩ := bind_some' ho1292
         refine OW.fn rfl rfl rfl rfl (by kernel_rfl) (tappetref03_Line_ok _ fu o1238 r1300 hr1301 (hst.part [] rfl)) ?_
         rintro e w1302 ⟨rfl, hst1303⟩
         refine ⟨_, rfl, ?_⟩
         have hst := hst.join (idx := []) (rest := [0, 1]) rfl hst1303
         refine OA.next ⟨(hst.blkN 1 rfl 0 5), trivial⟩ ?_
         refine OA.pure [7, 8] [(205, .bool (sEq r1300 p0))] (by kernel_rfl) ?_
         refine OA.act (i := 9) [] (by kernel_rfl) rfl rfl (by kernel_rfl) (by kernel_rfl) ?_
         refine OW.stB hst 0 rfl rfl rfl rfl rfl (by kernel_rfl) rfl rfl [.int .i64 o1238.Op, .int .i64 o1238.D, .int .i64 o1238.A, .int .i64 o1238.B, .int .i64 o1238.Imm] rfl ?_
         intro w1304 hst
         refine OA.next trivial ?_
         refine OA.act (i := 10) [] (by kernel_rfl) rfl rfl (by kernel_rfl) (by kernel_rfl) ?_
         refine OW.pure 1 [(3, .bool (sEq r1300 p0))] (by kernel_rfl) ?_
         refine OA.next trivial ?_
         refine OA.fin (by kernel_rfl) (by kernel_rfl) ?_
         obtain rfl := Option.some.inj ho1292
         exact QW.meet (fun a ha => ⟨ha.agrees (by kernel_rfl), hst.keep [0] rfl⟩)
        ·have ho1292 := ite_f ho1292 hc1299
         refine OA.pure [4, 5, 6, 7, 8] [(205, .bool false)] (by kernel_rfl) ?_
         refine OA.act (i := 9) [] (by kernel_rfl) rfl rfl (by kernel_rfl) (by kernel_rfl) ?_
         refine OW.stB hst 0 rfl rfl rfl rfl rfl (by kernel_rfl) rfl rfl [.int .i64 o1238.Op, .int .i64 o1238.D, .int .i64 o1238.A, .int .i64 o1238.B, .int .i64 o1238.Imm] rfl ?_
         intro w1305 hst
         refine OA.next trivial ?_
         refine OA.act (i := 10) [] (by kernel_rfl) rfl rfl (by kernel_rfl) (by kernel_rfl) ?_
         refine OW.pure 1 [(3, .bool false)] (by kernel_rfl) ?_
         refine OA.next trivial ?_
         refine OA.fin (by kernel_rfl) (by kernel_rfl) ?_
         obtain rfl := Option.some.inj ho1292
         exact QW.meet (fun a ha => ⟨ha.agrees (by kernel_rfl), hst.keep [0] rfl⟩)
       ·rintro a w1 ⟨ha, hst⟩
        refine CW.go ?_ ha
        refine CW.ret ?_
        obtain rfl := Option.some.inj hF
        refine QW.ret_ct rfl rfl (run_loadN (cs := [.int .i64 o1238.Op, .int .i64 o1238.D, .int .i64 o1238.A, .int .i64 o1238.B, .int .i64 o1238.Imm]) (by kernel_rfl) (by kernel_rfl) (hst.blkN 0 rfl 0 5)) rfl ?_
        exact ⟨rfl, hst.keep [] rfl⟩

set_option maxRecDepth 10000 in
set_option maxHeartbeats 4000000 in
theorem tappetref03_Parse_ok (w : World) (fu : Nat) (p0 : ByteArray) (r : (List api_Inst) × Int × Int) (hF : tappetref03_Parse fu p0 = some r)
    (hst : St w (fp []) w []) :
    Calls Tryd.prog 14 [.string p0].toArray w (fun e w' => ∃ (x0 : Value), e = .returned (.tuple #[x0, .int .i64 r.2.1, .int .i64 r.2.2]) ∧ St w (fp []) w' [rowI x0 32 enc_api_Inst 5 r.1]) := by
 refine CW.start (N := 47) Tryd.func14 rfl rfl rfl ?_
 refine CW.seq ?_
 refine CW.region ?_
 refine OW.pure 3 [] (by kernel_rfl) ?_
 refine OW.nil rfl ?_
 refine QW.next ?_
 refine CW.seq ?_
 refine CW.region ?_
 refine OW.pure 1 [(5, .slice none 0 0)] (by kernel_rfl) ?_
 refine OW.nil rfl ?_
 refine QW.next ?_
 refine CW.seq ?_
 refine CW.region ?_
 refine OW.pure 1 [(6, .int .i64 0)] (by kernel_rfl) ?_
 refine OW.nil rfl ?_
 refine QW.next ?_
 refine CW.seq ?_
 refine CW.seq ?_
 refine CW.region ?_
 refine OW.pure 1 [(7, .int .i64 0)] (by kernel_rfl) ?_
 refine OW.nil rfl ?_
 refine QW.next ?_
 obtain ⟨o153, ho154, hF⟩ := bind_some' hF
 refine CW.cutK (fun a w1 => ∃ (t155 : (List api_Inst) × Int) (v152 : Value), o153 = .inl t155 ∧ Rep 47 [(0, .string p0), (5, v152), (6, .int .i64 t155.2)] a ∧ St w (fp []) w1 [rowI v152 32 enc_api_Inst 5 t155.1]) ?_ ?_
 ·refine CW.block ?_
  obtain ⟨u258, hr259, ho154⟩ := bind_some' ho154
  have hst := hst.nilRow api_Inst 32 enc_api_Inst 5
  refine CW.loop (fun n a w1 => ∃ (i256 : Nat) (s254 : (List api_Inst) × Int) (v255 : Value), i256 + n = p0.size ∧ Rep 47 [(0, .string p0), (5, v255), (6, .int .i64 s254.2), (7, .int .i64 (i256 : Int))] a ∧ St w (fp []) w1 [rowI v255 32 enc_api_Inst 5 s254.1] ∧ forN (tappetref03_Parse_l1 fu p0) (fun (s254 : (List api_Inst) × Int) => (.inl (s254.1, s254.2))) n i256 s254 = some o153) p0.size (fun a ha => ⟨0, (([] : List api_Inst), 0), (.slice none 0 0), Nat.zero_add _, ha.agrees (by kernel_rfl), hst.keep [0] rfl, ho154⟩) ?_
  rintro n252 a w1 ⟨i256, s254, v255, hi257, ha, hst, hl253⟩
  refine CW.go ?_ ha
  obtain ⟨l260, a261, c262, rfl⟩ := hst.len 0 rfl
  refine CW.seq ?_
  refine CW.seq ?_
  refine CW.region ?_
  refine OW.pure 4 [(13, .bool (decide ((i256 : Int) < (p0.size : Int))))] (by kernel_rfl) ?_
  refine OW.nil rfl ?_
  refine QW.next ?_
  rcases Bool.eq_false_or_eq_true (decide ((i256 : Int) < (p0.size : Int))) with hc263 | hc263
  ·rcases n252 with _ | n252
   ·exact (cnt0 hi257 hc263).elim
   refine CW.cond_t rfl hc263 ?_
   refine CW.skip ?_
   refine QW.next ?_
   refine CW.seq ?_
   refine CW.block ?_
   refine CW.seq ?_
   refine CW.seq ?_
   refine CW.region ?_
   refine OW.pure 2 [(16, .string p0), (17, .int .i64 (i256 : Int))] (by kernel_rfl) ?_
   obtain ⟨c266, hx267, hl253⟩ := bind_some' hl253
   refine OW.op (v := .int .u8 c266) rfl rfl rfl rfl (fun a ha => sidx_run rfl rfl rfl (by kernel_rfl) hx267 a _ ha) ?_
   refine OW.pure 1 [(19, .bool (c266 != 10))] (by kernel_rfl) ?_
   refine OW.nil rfl ?_
   refine QW.next ?_
   rcases Bool.eq_false_or_eq_true ((c266 != 10)) with hc268 | hc268
   ·have hl253 := ite_t hl253 hc268
    refine CW.cond_t rfl hc268 ?_
    refine CW.exit ?_
    refine QW.then_exit ?_
    refine QW.block_here ?_
    refine QW.next ?_
    refine CW.region ?_
    refine OW.pure 3 [(7, .int .i64 (w64 ((i256 : Int) + 1)))] (by kernel_rfl) ?_
    refine OW.nil rfl ?_
    refine QW.say 7 rfl (congrArg (Value.int .i64) (w64_cnt hc263 (room_sz hr259))) ?_
    exact QW.meet (fun a ha => ⟨n252, Nat.lt_succ_self _, i256 + 1, (s254.1, s254.2), (.slice a261 (s254.1).length c262), cnt_next hi257, ha.agrees (by kernel_rfl), hst.keep [0] rfl, hl253⟩)
   ·have hl253 := ite_f hl253 hc268
    refine CW.cond_f rfl hc268 ?_
    refine CW.skip ?_
    refine QW.next ?_
    refine CW.seq ?_
    refine CW.region ?_
    refine OW.pure 3 [(21, .string p0), (22, .int .i64 s254.2), (23, .int .i64 (i256 : Int))] (by kernel_rfl) ?_
    obtain ⟨x279, hx280, hl253⟩ := bind_some' hl253
    refine OW.op (v := .string x279) rfl rfl rfl rfl (fun a ha => ssub_run rfl rfl rfl rfl (by kernel_rfl) hx280 a _ ha) ?_
    obtain ⟨r281, hr282, hl253⟩ := bind_some' hl253
    refine OW.fn rfl rfl rfl rfl (by kernel_rfl) (tappetref03_Read_ok _ fu x279 r281 hr282 (hst.part [] rfl)) ?_
    rintro e w283 ⟨rfl, hst284⟩
    refine ⟨_, rfl, ?_⟩
    have hst := hst.join (idx := []) (rest := [0]) rfl hst284
    refine OW.pure 3 [(26, .agg [.int .i64 r281.1.Op, .int .i64 r281.1.D, .int .i64 r281.1.A, .int .i64 r281.1.B, .int .i64 r281.1.Imm].toArray), (27, .bool r281.2)] (by kernel_rfl) ?_
    refine OW.alloc hst rfl rfl rfl [.int .i64 0, .int .i64 0, .int .i64 0, .int .i64 0, .int .i64 0] (by kernel_rfl) ?_
    intro b285 w286 hst
    refine OW.stB hst 1 rfl rfl rfl rfl rfl (by kernel_rfl) rfl rfl [.int .i64 r281.1.Op, .int .i64 r281.1.D, .int .i64 r281.1.A, .int .i64 r281.1.B, .int .i64 r281.1.Imm] rfl ?_
    intro w287 hst
    refine OW.pure 1 [(9, .bool r281.2)] (by kernel_rfl) ?_
    refine OW.nil rfl ?_
    refine QW.next ?_
    refine CW.seq ?_
    refine CW.seq ?_
    refine CW.region ?_
    refine OW.pure 2 [(29, .bool (!r281.2))] (by kernel_rfl) ?_
    refine OW.nil rfl ?_
    refine QW.next ?_
    rcases Bool.eq_false_or_eq_true ((!r281.2)) with hc288 | hc288
    ·have hl253 := ite_t hl253 hc288
     refine CW.cond_t rfl hc288 ?_
     refine CW.seq ?_
     refine CW.region ?_
     refine OW.pure 6 [(2, .slice none 0 0), (3, .int .i64 (w64 (((s254.1).length : Int) + 1))), (4, .int .i64 20)] (by kernel_rfl) ?_
     refine OW.nil rfl ?_
     refine QW.next ?_
     refine CW.ret ?_
     refine QW.then_ret ?_
     refine QW.block_ret ?_
     refine QW.then_ret ?_
     refine QW.then_ret ?_
     refine QW.block_ret ?_
     refine QW.then_ret ?_
     have hst := hst.nilRow api_Inst 32 enc_api_Inst 5
     obtain rfl := Option.some.inj hl253
     obtain rfl := Option.some.inj hF
     refine QW.ret3 rfl rfl rfl rfl ?_
     exact ⟨(.slice none 0 0), rfl, hst.keep [2] rfl⟩
    ·have hl253 := ite_f hl253 hc288
     refine CW.cond_f rfl hc288 ?_
     refine CW.skip ?_
     refine QW.next ?_
     refine CW.seq ?_
     refine CW.region ?_
     refine OW.pure 1 [(33, .slice a261 (s254.1).length c262)] (by kernel_rfl) ?_
     refine OW.ldN (cs := [.int .i64 r281.1.Op, .int .i64 r281.1.D, .int .i64 r281.1.A, .int .i64 r281.1.B, .int .i64 r281.1.Imm]) rfl rfl rfl rfl (by kernel_rfl) (by kernel_rfl) (hst.blkN 1 rfl 0 5) ?_
     refine OW.row (α := api_Inst) (e := 32) (enc := enc_api_Inst) (sz := 5) hst rfl rfl rfl [r281.1] rfl (fun _ => rfl) rfl rfl (fun _ => by kernel_rfl) ?_
     intro g298 w299 hst
     obtain ⟨u300, hr301, hl253⟩ := bind_some' hl253
     refine OW.app hst 0 rfl (fun _ => rfl) (fun _ => rfl) rfl rfl rfl rfl rfl rfl (by kernel_rfl) el32 (hst.rd 2 rfl (fun _ => rfl) [] rfl (hst.len 2 rfl).1) (room_le hr301) ?_
     intro v302 w303 hst
     obtain ⟨l304, a305, c306, rfl⟩ := hst.len 0 rfl
     refine OW.pure 1 [(5, .slice a305 ((s254.1 ++ [r281.1])).length c306)] (by kernel_rfl) ?_
     refine OW.nil rfl ?_
     refine QW.next ?_
     refine CW.region ?_
     refine OW.pure 3 [(6, .int .i64 (w64 ((i256 : Int) + 1)))] (by kernel_rfl) ?_
     refine OW.nil rfl ?_
     refine QW.block_normal ?_
     refine QW.next ?_
     refine CW.region ?_
     refine OW.pure 3 [(7, .int .i64 (w64 ((i256 : Int) + 1)))] (by kernel_rfl) ?_
     refine OW.nil rfl ?_
     refine QW.say 7 rfl (congrArg (Value.int .i64) (w64_cnt hc263 (room_sz hr259))) ?_
     exact QW.meet (fun a ha => ⟨n252, Nat.lt_succ_self _, i256 + 1, ((s254.1 ++ [r281.1]), w64 ((i256 : Int) + 1)), (.slice a305 ((s254.1 ++ [r281.1])).length c306), cnt_next hi257, ha.agrees (by kernel_rfl), hst.keep [0] rfl, hl253⟩)
  ·rcases n252 with _ | n252
   ·refine CW.cond_f rfl hc263 ?_
    refine CW.exit ?_
    refine QW.then_exit ?_
    refine QW.then_exit ?_
    refine QW.block_here ?_
    obtain rfl := Option.some.inj hl253
    exact QW.meet (fun a ha => ⟨(s254.1, s254.2), (.slice a261 (s254.1).length c262), rfl, ha.agrees (by kernel_rfl), hst.keep [0] rfl⟩)
   ·exact (cnt1 hi257 hc263).elim
 ·rintro a w1 ⟨t155, v152, rfl, ha, hst⟩
  refine CW.go ?_ ha
  obtain ⟨l309, a310, c311, rfl⟩ := hst.len 0 rfl
  refine CW.seq ?_
  refine CW.seq ?_
  refine CW.region ?_
  refine OW.pure 4 [(42, .bool (decide (t155.2 < (p0.size : Int))))] (by kernel_rfl) ?_
  refine OW.nil rfl ?_
  refine QW.next ?_
  rcases Bool.eq_false_or_eq_true (decide (t155.2 < (p0.size : Int))) with hc312 | hc312
  ·have hF := ite_t hF hc312
   refine CW.cond_t rfl hc312 ?_
   refine CW.seq ?_
   refine CW.region ?_
   refine OW.pure 6 [(2, .slice none 0 0), (3, .int .i64 (w64 (((t155.1).length : Int) + 1))), (4, .int .i64 20)] (by kernel_rfl) ?_
   refine OW.nil rfl ?_
   refine QW.next ?_
   refine CW.ret ?_
   refine QW.then_ret ?_
   have hst := hst.nilRow api_Inst 32 enc_api_Inst 5
   obtain rfl := Option.some.inj hF
   refine QW.ret3 rfl rfl rfl rfl ?_
   exact ⟨(.slice none 0 0), rfl, hst.keep [1] rfl⟩
  ·have hF := ite_f hF hc312
   refine CW.cond_f rfl hc312 ?_
   refine CW.skip ?_
   refine QW.next ?_
   refine CW.seq ?_
   refine CW.region ?_
   refine OW.pure 4 [(2, .slice a310 (t155.1).length c311), (3, .int .i64 0), (4, .int .i64 0)] (by kernel_rfl) ?_
   refine OW.nil rfl ?_
   refine QW.next ?_
   refine CW.ret ?_
   obtain rfl := Option.some.inj hF
   refine QW.ret3 rfl rfl rfl rfl ?_
   exact ⟨(.slice a310 (t155.1).length c311), rfl, hst.keep [0] rfl⟩

set_option maxRecDepth 10000 in
set_option maxHeartbeats 4000000 in
theorem tappetlaw03_LinesParses_ok (w : World) (fu : Nat) (p0 : ByteArray) (r : Bool) (hF : tappetlaw03_LinesParses fu p0 = some r)
    (hst : St w (fp []) w []) (hT0 : Rd w (fp []) (.slice (some ⟨0, 0, none⟩) 23 23) enc_ops_form 2 tab_g0) (hTL : LibG Tryd.prog 2 1 3 4 w (fp [])) :
    Calls Tryd.prog 4 [.string p0].toArray w (fun e w' => e = .returned (.bool r) ∧ St w (fp []) w' []) := by
 refine CW.start (N := 36) Tryd.func4 rfl rfl rfl ?_
 refine CW.seq ?_
 refine CW.region ?_
 refine OW.pure 1 [] (by kernel_rfl) ?_
 refine OW.nil rfl ?_
 refine QW.next ?_
 refine CW.seq ?_
 refine CW.seq ?_
 refine CW.region ?_
 obtain ⟨r5, hr6, hF⟩ := bind_some' hF
 refine OW.fn rfl rfl rfl rfl (by kernel_rfl) (tappetlaw03_awake_ok _ fu r5 hr6 (hst.part [] rfl) (hT0.give hst []) (hTL.give hst [])) ?_
 rintro e w7 ⟨rfl, hst8⟩
 refine ⟨_, rfl, ?_⟩
 have hst := hst.join (idx := []) (rest := []) rfl hst8
 refine OW.pure 1 [(10, .bool (!r5))] (by kernel_rfl) ?_
 refine OW.nil rfl ?_
 refine QW.next ?_
 rcases Bool.eq_false_or_eq_true ((!r5)) with hc9 | hc9
 ·have hF := ite_t hF hc9
  refine CW.cond_t rfl hc9 ?_
  refine CW.seq ?_
  refine CW.region ?_
  refine OW.pure 1 [(2, .bool false)] (by kernel_rfl) ?_
  refine OW.nil rfl ?_
  refine QW.next ?_
  refine CW.ret ?_
  refine QW.then_ret ?_
  obtain rfl := Option.some.inj hF
  refine QW.ret1 rfl rfl ?_
  exact ⟨rfl, hst.keep [] rfl⟩
 ·have hF := ite_f hF hc9
  refine CW.cond_f rfl hc9 ?_
  refine CW.skip ?_
  refine QW.next ?_
  refine CW.seq ?_
  refine CW.region ?_
  refine OW.pure 1 [(12, .string p0)] (by kernel_rfl) ?_
  obtain ⟨r18, hr19, hF⟩ := bind_some' hF
  refine OW.fn rfl rfl rfl rfl (by kernel_rfl) (lines_Parse_ok _ fu p0 r18 hr19 (hst.part [] rfl) (hT0.give hst []) (hTL.give hst [])) ?_
  rintro e w20 ⟨v22, rfl, hst21⟩
  refine ⟨_, rfl, ?_⟩
  have hst := hst.join (idx := []) (rest := []) rfl hst21
  obtain ⟨l23, a24, c25, rfl⟩ := hst.len 0 rfl
  refine OW.pure 7 [(3, .slice a24 (r18.1).length c25), (4, .int .i64 r18.2.1), (5, .int .i64 r18.2.2)] (by kernel_rfl) ?_
  refine OW.nil rfl ?_
  refine QW.next ?_
  refine CW.seq ?_
  refine CW.region ?_
  refine OW.pure 1 [(18, .string p0)] (by kernel_rfl) ?_
  obtain ⟨r34, hr35, hF⟩ := bind_some' hF
  refine OW.fn rfl rfl rfl rfl (by kernel_rfl) (tappetref03_Parse_ok _ fu p0 r34 hr35 (hst.part [] rfl)) ?_
  rintro e w36 ⟨v38, rfl, hst37⟩
  refine ⟨_, rfl, ?_⟩
  have hst := hst.join (idx := []) (rest := [0]) rfl hst37
  obtain ⟨l39, a40, c41, rfl⟩ := hst.len 0 rfl
  refine OW.pure 7 [(6, .slice a40 (r34.1).length c41), (7, .int .i64 r34.2.1), (8, .int .i64 r34.2.2)] (by kernel_rfl) ?_
  refine OW.nil rfl ?_
  refine QW.next ?_
  refine CW.seq ?_
  obtain ⟨o52, ho53, hF⟩ := bind_some' hF
  refine CW.cutK (fun a w1 => Rep 36 [(2, .bool o52)] a ∧ St w (fp []) w1 []) ?_ ?_
  ·refine CW.region ?_
   refine OW.pure 2 [(23, .slice a24 (r18.1).length c25), (24, .slice a40 (r34.1).length c41)] (by kernel_rfl) ?_
   obtain ⟨r54, hr55, ho53⟩ := bind_some' ho53
   refine OW.fn rfl rfl rfl rfl (by kernel_rfl) (tappetlaw03_alike_ok _ (.slice a24 (r18.1).length c25) r18.1 (.slice a40 (r34.1).length c41) r34.1 r54 hr55 (hst.part [] rfl) (hst.rd 1 rfl (fun _ => rfl) [] rfl (hst.len 1 rfl).1) (hst.rd 0 rfl (fun _ => rfl) [] rfl (hst.len 0 rfl).1)) ?_
   rintro e w56 ⟨rfl, hst57⟩
   refine ⟨_, rfl, ?_⟩
   have hst := hst.join (idx := []) (rest := [0, 1]) rfl hst57
   refine OW.pure 1 [(26, .bool r54)] (by kernel_rfl) ?_
   refine OW.split 26 rfl (fun hc58 => ?_) (fun hc58 => ?_)
   ·have ho53 := ite_t ho53 hc58
    refine OW.pure 5 [(31, .bool (r18.2.1 == r34.2.1))] (by kernel_rfl) ?_
    refine OW.split 31 rfl (fun hc59 => ?_) (fun hc59 => ?_)
    ·have ho53 := ite_t ho53 hc59
     refine OW.pure 5 [(2, .bool (r18.2.2 == r34.2.2))] (by kernel_rfl) ?_
     refine OW.nil rfl ?_
     obtain rfl := Option.some.inj ho53
     exact QW.meet (fun a ha => ⟨ha.agrees (by kernel_rfl), hst.keep [] rfl⟩)
    ·have ho53 := ite_f ho53 hc59
     refine OW.pure 5 [(2, .bool false)] (by kernel_rfl) ?_
     refine OW.nil rfl ?_
     obtain rfl := Option.some.inj ho53
     exact QW.meet (fun a ha => ⟨ha.agrees (by kernel_rfl), hst.keep [] rfl⟩)
   ·have ho53 := ite_f ho53 hc58
    refine OW.pure 10 [(2, .bool false)] (by kernel_rfl) ?_
    refine OW.nil rfl ?_
    obtain rfl := Option.some.inj ho53
    exact QW.meet (fun a ha => ⟨ha.agrees (by kernel_rfl), hst.keep [] rfl⟩)
  ·rintro a w1 ⟨ha, hst⟩
   refine CW.go ?_ ha
   refine CW.ret ?_
   obtain rfl := Option.some.inj hF
   refine QW.ret1 rfl rfl ?_
   exact ⟨rfl, hst.keep [] rfl⟩

set_option maxRecDepth 10000 in
set_option maxHeartbeats 4000000 in
theorem tappetlaw03_LinesFresh_ok (w : World) (fu : Nat) (v0 : Value) (p0 : List api_Inst) (r : Bool) (hF : tappetlaw03_LinesFresh fu p0 = some r)
    (hst : St w (fp []) w []) (h0 : Rd w (fp []) v0 enc_api_Inst 5 p0) (hT0 : Rd w (fp []) (.slice (some ⟨0, 0, none⟩) 23 23) enc_ops_form 2 tab_g0) (hTL : LibG Tryd.prog 2 1 3 4 w (fp [])) :
    Calls Tryd.prog 7 [v0].toArray w (fun e w' => e = .returned (.bool r) ∧ St w (fp []) w' []) := by
 refine CW.start (N := 66) Tryd.func7 rfl rfl rfl ?_
 obtain ⟨l1, a2, c3, rfl⟩ := h0.len
 refine CW.seq ?_
 refine CW.region ?_
 refine OW.pure 1 [] (by kernel_rfl) ?_
 refine OW.nil rfl ?_
 refine QW.next ?_
 refine CW.seq ?_
 refine CW.seq ?_
 refine CW.region ?_
 obtain ⟨r8, hr9, hF⟩ := bind_some' hF
 refine OW.fn rfl rfl rfl rfl (by kernel_rfl) (tappetlaw03_awake_ok _ fu r8 hr9 (hst.part [] rfl) (hT0.give hst []) (hTL.give hst [])) ?_
 rintro e w10 ⟨rfl, hst11⟩
 refine ⟨_, rfl, ?_⟩
 have hst := hst.join (idx := []) (rest := []) rfl hst11
 refine OW.pure 1 [(16, .bool (!r8))] (by kernel_rfl) ?_
 refine OW.nil rfl ?_
 refine QW.next ?_
 rcases Bool.eq_false_or_eq_true ((!r8)) with hc12 | hc12
 ·have hF := ite_t hF hc12
  refine CW.cond_t rfl hc12 ?_
  refine CW.seq ?_
  refine CW.region ?_
  refine OW.pure 1 [(2, .bool false)] (by kernel_rfl) ?_
  refine OW.nil rfl ?_
  refine QW.next ?_
  refine CW.ret ?_
  refine QW.then_ret ?_
  obtain rfl := Option.some.inj hF
  refine QW.ret1 rfl rfl ?_
  exact ⟨rfl, hst.keep [] rfl⟩
 ·have hF := ite_f hF hc12
  refine CW.cond_f rfl hc12 ?_
  refine CW.skip ?_
  refine QW.next ?_
  refine CW.seq ?_
  refine CW.region ?_
  refine OW.pure 1 [(18, .slice a2 (p0).length c3)] (by kernel_rfl) ?_
  obtain ⟨r17, hr18, hF⟩ := bind_some' hF
  refine OW.fn rfl rfl rfl rfl (by kernel_rfl) (lines_Print_ok _ fu (.slice a2 (p0).length c3) p0 r17 hr18 (hst.part [] rfl) (h0.give hst []) (hT0.give hst []) (hTL.give hst [])) ?_
  rintro e w19 ⟨rfl, hst20⟩
  refine ⟨_, rfl, ?_⟩
  have hst := hst.join (idx := []) (rest := []) rfl hst20
  refine OW.pure 5 [(3, .string r17.1)] (by kernel_rfl) ?_
  refine OW.nil rfl ?_
  refine QW.next ?_
  refine CW.seq ?_
  refine CW.region ?_
  refine OW.pure 1 [(23, .string r17.1)] (by kernel_rfl) ?_
  obtain ⟨r29, hr30, hF⟩ := bind_some' hF
  refine OW.fn rfl rfl rfl rfl (by kernel_rfl) (lines_Parse_ok _ fu r17.1 r29 hr30 (hst.part [] rfl) (hT0.give hst []) (hTL.give hst [])) ?_
  rintro e w31 ⟨v33, rfl, hst32⟩
  refine ⟨_, rfl, ?_⟩
  have hst := hst.join (idx := []) (rest := []) rfl hst32
  obtain ⟨l34, a35, c36, rfl⟩ := hst.len 0 rfl
  refine OW.pure 7 [(5, .slice a35 (r29.1).length c36)] (by kernel_rfl) ?_
  refine OW.nil rfl ?_
  refine QW.next ?_
  refine CW.seq ?_
  refine CW.region ?_
  refine OW.pure 1 [(29, .string r17.1)] (by kernel_rfl) ?_
  obtain ⟨r45, hr46, hF⟩ := bind_some' hF
  refine OW.fn rfl rfl rfl rfl (by kernel_rfl) (lines_Parse_ok _ fu r17.1 r45 hr46 (hst.part [] rfl) (hT0.give hst []) (hTL.give hst [])) ?_
  rintro e w47 ⟨v49, rfl, hst48⟩
  refine ⟨_, rfl, ?_⟩
  have hst := hst.join (idx := []) (rest := [0]) rfl hst48
  obtain ⟨l50, a51, c52, rfl⟩ := hst.len 0 rfl
  refine OW.pure 7 [(8, .slice a51 (r45.1).length c52)] (by kernel_rfl) ?_
  refine OW.nil rfl ?_
  refine QW.next ?_
  refine CW.seq ?_
  refine CW.seq ?_
  refine CW.region ?_
  refine OW.pure 1 [(11, .int .i64 0)] (by kernel_rfl) ?_
  refine OW.nil rfl ?_
  refine QW.next ?_
  obtain ⟨o117, ho118, hF⟩ := bind_some' hF
  refine CW.cutK (fun a w1 => ∃ (v116 : Value), Rep 66 [(3, .string r17.1), (5, v116), (8, .slice a51 (r45.1).length c52)] a ∧ St w (fp []) w1 [rowI v116 32 enc_api_Inst 5 o117, rowI (.slice a51 (r45.1).length c52) 32 enc_api_Inst 5 r45.1]) ?_ ?_
  ·refine CW.block ?_
   refine CW.loop (fun n a w1 => ∃ (s162 : (List api_Inst) × Int) (v163 : Value), Rep 66 [(3, .string r17.1), (5, v163), (8, .slice a51 (r45.1).length c52), (11, .int .i64 s162.2)] a ∧ St w (fp []) w1 [rowI v163 32 enc_api_Inst 5 s162.1, rowI (.slice a51 (r45.1).length c52) 32 enc_api_Inst 5 r45.1] ∧ loop tappetlaw03_LinesFresh_l1 n s162 = some o117) fu (fun a ha => ⟨(r29.1, 0), (.slice a35 (r29.1).length c36), ha.agrees (by kernel_rfl), hst.keep [1, 0] rfl, ho118⟩) ?_
   rintro n160 a w1 ⟨s162, v163, ha, hst, hl161⟩
   rcases n160 with _ | n160
   ·exact (loop_zero hl161).elim
   refine CW.go ?_ ha
   obtain ⟨l164, a165, c166, rfl⟩ := hst.len 0 rfl
   refine CW.seq ?_
   refine CW.seq ?_
   refine CW.region ?_
   refine OW.pure 4 [(37, .bool (decide (s162.2 < ((s162.1).length : Int))))] (by kernel_rfl) ?_
   refine OW.nil rfl ?_
   refine QW.next ?_
   rcases Bool.eq_false_or_eq_true (decide (s162.2 < ((s162.1).length : Int))) with hc167 | hc167
   ·have hl161 := ite_t hl161 hc167
    refine CW.cond_t rfl hc167 ?_
    refine CW.skip ?_
    refine QW.next ?_
    refine CW.seq ?_
    refine CW.block ?_
    refine CW.region ?_
    refine OW.pure 3 [(40, .slice a165 (s162.1).length c166), (41, .int .i64 s162.2), (42, .agg [.int .i64 77, .int .i64 0, .int .i64 0, .int .i64 0, .int .i64 0].toArray)] (by kernel_rfl) ?_
    obtain ⟨x175, hx176, hl161⟩ := bind_some' hl161
    obtain ⟨g178, o179, c180, hv177⟩ := hst.rowv 0 rfl hx176
    refine OW.idx 32 5 rfl rfl rfl rfl hv177 rfl (idx_some hx176).1 (idx_some hx176).2.1 (by kernel_rfl) (by kernel_rfl) ?_
    refine OW.stR hst 0 rfl hv177 (fun _ => rfl) rfl rfl hx176 0 rfl rfl rfl (by kernel_rfl) rfl rfl (api_Inst.mk 77 0 0 0 0) rfl ?_
    intro w181 hst
    refine OW.nil rfl ?_
    refine QW.block_normal ?_
    refine QW.next ?_
    refine CW.region ?_
    refine OW.pure 3 [(11, .int .i64 (w64 (s162.2 + 1)))] (by kernel_rfl) ?_
    refine OW.nil rfl ?_
    exact QW.meet (fun a ha => ⟨n160, Nat.lt_succ_self _, ((s162.1.set (Int.toNat s162.2) (api_Inst.mk 77 0 0 0 0)), w64 (s162.2 + 1)), (.slice a165 (s162.1).length c166), ha.agrees (by kernel_rfl), hst.keep [0, 1] rfl, hl161⟩)
   ·have hl161 := ite_f hl161 hc167
    refine CW.cond_f rfl hc167 ?_
    refine CW.exit ?_
    refine QW.then_exit ?_
    refine QW.then_exit ?_
    refine QW.block_here ?_
    obtain rfl := Option.some.inj hl161
    exact QW.meet (fun a ha => ⟨(.slice a165 (s162.1).length c166), ha.agrees (by kernel_rfl), hst.keep [0, 1] rfl⟩)
  ·rintro a w1 ⟨v116, ha, hst⟩
   refine CW.go ?_ ha
   obtain ⟨l185, a186, c187, rfl⟩ := hst.len 0 rfl
   refine CW.seq ?_
   refine CW.region ?_
   refine OW.pure 1 [(45, .string r17.1)] (by kernel_rfl) ?_
   obtain ⟨r196, hr197, hF⟩ := bind_some' hF
   refine OW.fn rfl rfl rfl rfl (by kernel_rfl) (lines_Parse_ok _ fu r17.1 r196 hr197 (hst.part [] rfl) (hT0.give hst []) (hTL.give hst [])) ?_
   rintro e w198 ⟨v200, rfl, hst199⟩
   refine ⟨_, rfl, ?_⟩
   have hst := hst.join (idx := []) (rest := [0, 1]) rfl hst199
   obtain ⟨l201, a202, c203, rfl⟩ := hst.len 0 rfl
   refine OW.pure 7 [(12, .slice a202 (r196.1).length c203)] (by kernel_rfl) ?_
   refine OW.nil rfl ?_
   refine QW.next ?_
   refine CW.seq ?_
   refine CW.region ?_
   refine OW.pure 3 [(50, .slice a186 (o117).length c187), (51, .agg [.int .i64 78, .int .i64 0, .int .i64 0, .int .i64 0, .int .i64 0].toArray), (52, .agg [.int .i64 79, .int .i64 0, .int .i64 0, .int .i64 0, .int .i64 0].toArray)] (by kernel_rfl) ?_
   refine OW.row (α := api_Inst) (e := 32) (enc := enc_api_Inst) (sz := 5) hst rfl rfl rfl [(api_Inst.mk 78 0 0 0 0), (api_Inst.mk 79 0 0 0 0)] rfl (fun _ => rfl) rfl rfl (fun _ => by kernel_rfl) ?_
   intro g213 w214 hst
   obtain ⟨u215, hr216, hF⟩ := bind_some' hF
   refine OW.app hst 1 rfl (fun _ => rfl) (fun _ => rfl) rfl rfl rfl rfl rfl rfl (by kernel_rfl) el32 (hst.rd 3 rfl (fun _ => rfl) [] rfl (hst.len 3 rfl).1) (room_le hr216) ?_
   intro v217 w218 hst
   obtain ⟨l219, a220, c221, rfl⟩ := hst.len 1 rfl
   refine OW.pure 1 [(5, .slice a220 ((o117 ++ [(api_Inst.mk 78 0 0 0 0), (api_Inst.mk 79 0 0 0 0)])).length c221)] (by kernel_rfl) ?_
   refine OW.nil rfl ?_
   refine QW.next ?_
   refine CW.seq ?_
   obtain ⟨o231, ho232, hF⟩ := bind_some' hF
   refine CW.cutK (fun a w1 => Rep 66 [(2, .bool o231)] a ∧ St w (fp []) w1 []) ?_ ?_
   ·refine CW.region ?_
    refine OW.pure 2 [(55, .slice a51 (r45.1).length c52), (56, .slice a202 (r196.1).length c203)] (by kernel_rfl) ?_
    obtain ⟨r233, hr234, ho232⟩ := bind_some' ho232
    refine OW.fn rfl rfl rfl rfl (by kernel_rfl) (tappetlaw03_alike_ok _ (.slice a51 (r45.1).length c52) r45.1 (.slice a202 (r196.1).length c203) r196.1 r233 hr234 (hst.part [] rfl) (hst.rd 2 rfl (fun _ => rfl) [] rfl (hst.len 2 rfl).1) (hst.rd 0 rfl (fun _ => rfl) [] rfl (hst.len 0 rfl).1)) ?_
    rintro e w235 ⟨rfl, hst236⟩
    refine ⟨_, rfl, ?_⟩
    have hst := hst.join (idx := []) (rest := [0, 1, 2, 3]) rfl hst236
    refine OW.pure 1 [(58, .bool r233)] (by kernel_rfl) ?_
    refine OW.split 58 rfl (fun hc237 => ?_) (fun hc237 => ?_)
    ·have ho232 := ite_t ho232 hc237
     refine OW.pure 8 [(2, .bool ((((o117 ++ [(api_Inst.mk 78 0 0 0 0), (api_Inst.mk 79 0 0 0 0)])).length : Int) == (w64 (((r45.1).length : Int) + 2))))] (by kernel_rfl) ?_
     refine OW.nil rfl ?_
     obtain rfl := Option.some.inj ho232
     exact QW.meet (fun a ha => ⟨ha.agrees (by kernel_rfl), hst.keep [] rfl⟩)
    ·have ho232 := ite_f ho232 hc237
     refine OW.pure 8 [(2, .bool false)] (by kernel_rfl) ?_
     refine OW.nil rfl ?_
     obtain rfl := Option.some.inj ho232
     exact QW.meet (fun a ha => ⟨ha.agrees (by kernel_rfl), hst.keep [] rfl⟩)
   ·rintro a w1 ⟨ha, hst⟩
    refine CW.go ?_ ha
    refine CW.ret ?_
    obtain rfl := Option.some.inj hF
    refine QW.ret1 rfl rfl ?_
    exact ⟨rfl, hst.keep [] rfl⟩

set_option maxRecDepth 10000 in
set_option maxHeartbeats 4000000 in
theorem tappetlaw03_LinesEach_ok (w : World) (fu : Nat) (v0 : Value) (p0 : List api_Inst) (r : Bool) (hF : tappetlaw03_LinesEach fu p0 = some r)
    (hst : St w (fp []) w []) (h0 : Rd w (fp []) v0 enc_api_Inst 5 p0) (hT0 : Rd w (fp []) (.slice (some ⟨0, 0, none⟩) 23 23) enc_ops_form 2 tab_g0) (hTL : LibG Tryd.prog 2 1 3 4 w (fp [])) :
    Calls Tryd.prog 8 [v0].toArray w (fun e w' => e = .returned (.bool r) ∧ St w (fp []) w' []) := by
 refine CW.start (N := 73) Tryd.func8 rfl rfl rfl ?_
 obtain ⟨l1, a2, c3, rfl⟩ := h0.len
 refine CW.seq ?_
 refine CW.region ?_
 refine OW.pure 1 [] (by kernel_rfl) ?_
 refine OW.nil rfl ?_
 refine QW.next ?_
 refine CW.seq ?_
 refine CW.seq ?_
 refine CW.region ?_
 obtain ⟨r8, hr9, hF⟩ := bind_some' hF
 refine OW.fn rfl rfl rfl rfl (by kernel_rfl) (tappetlaw03_awake_ok _ fu r8 hr9 (hst.part [] rfl) (hT0.give hst []) (hTL.give hst [])) ?_
 rintro e w10 ⟨rfl, hst11⟩
 refine ⟨_, rfl, ?_⟩
 have hst := hst.join (idx := []) (rest := []) rfl hst11
 refine OW.pure 1 [(12, .bool (!r8))] (by kernel_rfl) ?_
 refine OW.nil rfl ?_
 refine QW.next ?_
 rcases Bool.eq_false_or_eq_true ((!r8)) with hc12 | hc12
 ·have hF := ite_t hF hc12
  refine CW.cond_t rfl hc12 ?_
  refine CW.seq ?_
  refine CW.region ?_
  refine OW.pure 1 [(2, .bool false)] (by kernel_rfl) ?_
  refine OW.nil rfl ?_
  refine QW.next ?_
  refine CW.ret ?_
  refine QW.then_ret ?_
  obtain rfl := Option.some.inj hF
  refine QW.ret1 rfl rfl ?_
  exact ⟨rfl, hst.keep [] rfl⟩
 ·have hF := ite_f hF hc12
  refine CW.cond_f rfl hc12 ?_
  refine CW.skip ?_
  refine QW.next ?_
  refine CW.seq ?_
  refine CW.region ?_
  refine OW.pure 1 [(14, .slice a2 (p0).length c3)] (by kernel_rfl) ?_
  obtain ⟨r17, hr18, hF⟩ := bind_some' hF
  refine OW.fn rfl rfl rfl rfl (by kernel_rfl) (lines_Print_ok _ fu (.slice a2 (p0).length c3) p0 r17 hr18 (hst.part [] rfl) (h0.give hst []) (hT0.give hst []) (hTL.give hst [])) ?_
  rintro e w19 ⟨rfl, hst20⟩
  refine ⟨_, rfl, ?_⟩
  have hst := hst.join (idx := []) (rest := []) rfl hst20
  refine OW.pure 5 [(3, .string r17.1), (4, .int .i64 r17.2)] (by kernel_rfl) ?_
  refine OW.nil rfl ?_
  refine QW.next ?_
  refine CW.seq ?_
  refine CW.region ?_
  refine OW.pure 1 [(5, .string ByteArray.empty)] (by kernel_rfl) ?_
  refine OW.nil rfl ?_
  refine QW.next ?_
  refine CW.seq ?_
  refine CW.seq ?_
  refine CW.region ?_
  refine OW.pure 1 [(6, .int .i64 0)] (by kernel_rfl) ?_
  refine OW.nil rfl ?_
  refine QW.next ?_
  obtain ⟨o309, ho310, hF⟩ := bind_some' hF
  refine CW.cutK (fun a w1 => ∃ (t311 : ByteArray), o309 = .inl t311 ∧ Rep 73 [(3, .string r17.1), (4, .int .i64 r17.2), (5, .string t311)] a ∧ St w (fp []) w1 []) ?_ ?_
  ·refine CW.block ?_
   refine CW.loop (fun n a w1 => ∃ (i504 : Nat) (s503 : ByteArray), i504 + n = (p0).length ∧ Rep 73 [(0, .slice a2 (p0).length c3), (3, .string r17.1), (4, .int .i64 r17.2), (5, .string s503), (6, .int .i64 (i504 : Int))] a ∧ St w (fp []) w1 [] ∧ forN (tappetlaw03_LinesEach_l1 fu p0 r17) (fun (s503 : ByteArray) => (.inl s503)) n i504 s503 = some o309) (p0).length (fun a ha => ⟨0, ByteArray.empty, Nat.zero_add _, ha.agrees (by kernel_rfl), hst.keep [] rfl, ho310⟩) ?_
   rintro n501 a w1 ⟨i504, s503, hi505, ha, hst, hl502⟩
   refine CW.go ?_ ha
   refine CW.seq ?_
   refine CW.seq ?_
   refine CW.region ?_
   refine OW.pure 4 [(21, .bool (decide ((i504 : Int) < ((p0).length : Int))))] (by kernel_rfl) ?_
   refine OW.nil rfl ?_
   refine QW.next ?_
   rcases Bool.eq_false_or_eq_true (decide ((i504 : Int) < ((p0).length : Int))) with hc506 | hc506
   ·rcases n501 with _ | n501
    ·exact (cnt0 hi505 hc506).elim
    refine CW.cond_t rfl hc506 ?_
    refine CW.skip ?_
    refine QW.next ?_
    refine CW.seq ?_
    refine CW.block ?_
    refine CW.seq ?_
    refine CW.region ?_
    refine OW.pure 2 [(25, .slice a2 (p0).length c3), (26, .int .i64 (i504 : Int))] (by kernel_rfl) ?_
    obtain ⟨x519, hx520, hl502⟩ := bind_some' hl502
    obtain ⟨g522, o523, c524, hv521⟩ := h0.formv (fun _ => ⟨_, rfl⟩) hx520
    refine OW.idx 32 5 rfl rfl rfl rfl hv521 rfl (idx_some hx520).1 (idx_some hx520).2.1 (by kernel_rfl) (by kernel_rfl) ?_
    refine OW.ldN (cs := enc_api_Inst x519) rfl rfl rfl rfl (by kernel_rfl) (by kernel_rfl) (h0.cellv hst hx520 hv521) ?_
    refine OW.row (α := api_Inst) (e := 32) (enc := enc_api_Inst) (sz := 5) hst rfl rfl rfl [x519] rfl (fun _ => rfl) rfl rfl (fun _ => by kernel_rfl) ?_
    intro g525 w526 hst
    obtain ⟨r527, hr528, hl502⟩ := bind_some' hl502
    refine OW.fn rfl rfl rfl rfl (by kernel_rfl) (lines_Print_ok _ fu (.slice (some ⟨g525, 0, none⟩) 1 1) ([x519]) r527 hr528 (hst.part [] rfl) (hst.rd 0 rfl (fun _ => rfl) [] rfl (hst.len 0 rfl).1) (hT0.give hst []) (hTL.give hst [])) ?_
    rintro e w529 ⟨rfl, hst530⟩
    refine ⟨_, rfl, ?_⟩
    have hst := hst.join (idx := []) (rest := [0]) rfl hst530
    refine OW.pure 5 [(7, .string r527.1), (8, .int .i64 r527.2)] (by kernel_rfl) ?_
    refine OW.nil rfl ?_
    refine QW.next ?_
    refine CW.seq ?_
    refine CW.seq ?_
    refine CW.region ?_
    refine OW.pure 2 [(34, .bool (r527.2 != 0))] (by kernel_rfl) ?_
    refine OW.nil rfl ?_
    refine QW.next ?_
    rcases Bool.eq_false_or_eq_true ((r527.2 != 0)) with hc531 | hc531
    ·have hl502 := ite_t hl502 hc531
     refine CW.cond_t rfl hc531 ?_
     refine CW.seq ?_
     refine CW.cutK (fun a w1 => Rep 73 [(2, .bool ((r17.2 == 12) && sEq r17.1 ByteArray.empty))] a ∧ St w (fp []) w1 []) ?_ ?_
     ·refine CW.region ?_
      refine OW.pure 3 [(37, .bool (r17.2 == 12))] (by kernel_rfl) ?_
      refine OW.split 37 rfl (fun hc532 => ?_) (fun hc532 => ?_)
      ·refine OW.pure 4 [(2, .bool (sEq r17.1 ByteArray.empty))] (by kernel_rfl) ?_
       refine OW.nil rfl ?_
       refine QW.say 2 (v := .bool ((r17.2 == 12) && sEq r17.1 ByteArray.empty)) rfl (by first | (rw [hc532]; done) | (rw [hc532]; rfl) | simp [hc532]) ?_
       exact QW.meet (fun a ha => ⟨ha.agrees (by kernel_rfl), hst.keep [] rfl⟩)
      ·refine OW.pure 4 [(2, .bool false)] (by kernel_rfl) ?_
       refine OW.nil rfl ?_
       refine QW.say 2 (v := .bool ((r17.2 == 12) && sEq r17.1 ByteArray.empty)) rfl (by first | (rw [hc532]; done) | (rw [hc532]; rfl) | simp [hc532]) ?_
       exact QW.meet (fun a ha => ⟨ha.agrees (by kernel_rfl), hst.keep [] rfl⟩)
     ·rintro a w1 ⟨ha, hst⟩
      refine CW.go ?_ ha
      refine CW.ret ?_
      refine QW.then_ret ?_
      refine QW.block_ret ?_
      refine QW.then_ret ?_
      refine QW.then_ret ?_
      refine QW.block_ret ?_
      refine QW.then_ret ?_
      obtain rfl := Option.some.inj hl502
      obtain rfl := Option.some.inj hF
      refine QW.ret1 rfl rfl ?_
      exact ⟨rfl, hst.keep [] rfl⟩
    ·have hl502 := ite_f hl502 hc531
     refine CW.cond_f rfl hc531 ?_
     refine CW.skip ?_
     refine QW.next ?_
     refine CW.seq ?_
     refine CW.region ?_
     refine OW.pure 1 [(9, .int .i64 0)] (by kernel_rfl) ?_
     refine OW.nil rfl ?_
     refine QW.next ?_
     refine CW.seq ?_
     refine CW.seq ?_
     refine CW.region ?_
     refine OW.pure 1 [(10, .int .i64 0)] (by kernel_rfl) ?_
     refine OW.nil rfl ?_
     refine QW.next ?_
     obtain ⟨o559, ho560, hl502⟩ := bind_some' hl502
     refine CW.cutK (fun a w1 => Rep 73 [(0, .slice a2 (p0).length c3), (3, .string r17.1), (4, .int .i64 r17.2), (5, .string s503), (6, .int .i64 (i504 : Int)), (7, .string r527.1), (9, .int .i64 o559)] a ∧ St w (fp []) w1 []) ?_ ?_
     ·refine CW.block ?_
      obtain ⟨u579, hr580, ho560⟩ := bind_some' ho560
      refine CW.loop (fun n a w1 => ∃ (i577 : Nat) (s576 : Int), i577 + n = r527.1.size ∧ Rep 73 [(0, .slice a2 (p0).length c3), (3, .string r17.1), (4, .int .i64 r17.2), (5, .string s503), (6, .int .i64 (i504 : Int)), (7, .string r527.1), (9, .int .i64 s576), (10, .int .i64 (i577 : Int))] a ∧ St w (fp []) w1 [] ∧ forN (tappetlaw03_LinesEach_l2 r527) (fun (s576 : Int) => s576) n i577 s576 = some o559) r527.1.size (fun a ha => ⟨0, 0, Nat.zero_add _, ha.agrees (by kernel_rfl), hst.keep [] rfl, ho560⟩) ?_
      rintro n574 a w1 ⟨i577, s576, hi578, ha, hst, hl575⟩
      refine CW.go ?_ ha
      refine CW.seq ?_
      refine CW.seq ?_
      refine CW.region ?_
      refine OW.pure 4 [(44, .bool (decide ((i577 : Int) < (r527.1.size : Int))))] (by kernel_rfl) ?_
      refine OW.nil rfl ?_
      refine QW.next ?_
      rcases Bool.eq_false_or_eq_true (decide ((i577 : Int) < (r527.1.size : Int))) with hc581 | hc581
      ·rcases n574 with _ | n574
       ·exact (cnt0 hi578 hc581).elim
       refine CW.cond_t rfl hc581 ?_
       refine CW.skip ?_
       refine QW.next ?_
       refine CW.seq ?_
       refine CW.block ?_
       refine CW.seq ?_
       refine CW.region ?_
       refine OW.pure 2 [(47, .string r527.1), (48, .int .i64 (i577 : Int))] (by kernel_rfl) ?_
       obtain ⟨c584, hx585, hl575⟩ := bind_some' hl575
       refine OW.op (v := .int .u8 c584) rfl rfl rfl rfl (fun a ha => sidx_run rfl rfl rfl (by kernel_rfl) hx585 a _ ha) ?_
       refine OW.pure 1 [(50, .bool (c584 == 10))] (by kernel_rfl) ?_
       refine OW.nil rfl ?_
       refine QW.next ?_
       rcases Bool.eq_false_or_eq_true ((c584 == 10)) with hc586 | hc586
       ·have hl575 := ite_t hl575 hc586
        refine CW.cond_t rfl hc586 ?_
        refine CW.region ?_
        refine OW.pure 3 [(9, .int .i64 (w64 (s576 + 1)))] (by kernel_rfl) ?_
        refine OW.nil rfl ?_
        refine QW.block_normal ?_
        refine QW.next ?_
        refine CW.region ?_
        refine OW.pure 3 [(10, .int .i64 (w64 ((i577 : Int) + 1)))] (by kernel_rfl) ?_
        refine OW.nil rfl ?_
        refine QW.say 10 rfl (congrArg (Value.int .i64) (w64_cnt hc581 (room_sz hr580))) ?_
        exact QW.meet (fun a ha => ⟨n574, Nat.lt_succ_self _, i577 + 1, (w64 (s576 + 1)), cnt_next hi578, ha.agrees (by kernel_rfl), hst.keep [] rfl, hl575⟩)
       ·have hl575 := ite_f hl575 hc586
        refine CW.cond_f rfl hc586 ?_
        refine CW.skip ?_
        refine QW.block_normal ?_
        refine QW.next ?_
        refine CW.region ?_
        refine OW.pure 3 [(10, .int .i64 (w64 ((i577 : Int) + 1)))] (by kernel_rfl) ?_
        refine OW.nil rfl ?_
        refine QW.say 10 rfl (congrArg (Value.int .i64) (w64_cnt hc581 (room_sz hr580))) ?_
        exact QW.meet (fun a ha => ⟨n574, Nat.lt_succ_self _, i577 + 1, s576, cnt_next hi578, ha.agrees (by kernel_rfl), hst.keep [] rfl, hl575⟩)
      ·rcases n574 with _ | n574
       ·refine CW.cond_f rfl hc581 ?_
        refine CW.exit ?_
        refine QW.then_exit ?_
        refine QW.then_exit ?_
        refine QW.block_here ?_
        obtain rfl := Option.some.inj hl575
        exact QW.meet (fun a ha => ⟨ha.agrees (by kernel_rfl), hst.keep [] rfl⟩)
       ·exact (cnt1 hi578 hc581).elim
     ·rintro a w1 ⟨ha, hst⟩
      refine CW.go ?_ ha
      refine CW.seq ?_
      refine CW.seq ?_
      obtain ⟨o590, ho591, hl502⟩ := bind_some' hl502
      refine CW.cutK (fun a w1 => Rep 73 [(0, .slice a2 (p0).length c3), (3, .string r17.1), (4, .int .i64 r17.2), (5, .string s503), (6, .int .i64 (i504 : Int)), (7, .string r527.1), (62, .bool o590)] a ∧ St w (fp []) w1 []) ?_ ?_
      ·refine CW.region ?_
       refine OW.pure 3 [(55, .bool (o559 != 1))] (by kernel_rfl) ?_
       refine OW.split 55 rfl (fun hc592 => ?_) (fun hc592 => ?_)
       ·have ho591 := ite_t ho591 hc592
        refine OW.pure 7 [(62, .bool true)] (by kernel_rfl) ?_
        refine OW.nil rfl ?_
        obtain rfl := Option.some.inj ho591
        exact QW.meet (fun a ha => ⟨ha.agrees (by kernel_rfl), hst.keep [] rfl⟩)
       ·have ho591 := ite_f ho591 hc592
        refine OW.pure 4 [(56, .string r527.1), (59, .int .i64 (w64 ((r527.1.size : Int) - 1)))] (by kernel_rfl) ?_
        obtain ⟨c593, hx594, ho591⟩ := bind_some' ho591
        refine OW.op (v := .int .u8 c593) rfl rfl rfl rfl (fun a ha => sidx_run rfl rfl rfl (by kernel_rfl) hx594 a _ ha) ?_
        refine OW.pure 2 [(62, .bool (c593 != 10))] (by kernel_rfl) ?_
        refine OW.nil rfl ?_
        obtain rfl := Option.some.inj ho591
        exact QW.meet (fun a ha => ⟨ha.agrees (by kernel_rfl), hst.keep [] rfl⟩)
      ·rintro a w1 ⟨ha, hst⟩
       refine CW.go ?_ ha
       rcases Bool.eq_false_or_eq_true (o590) with hc595 | hc595
       ·have hl502 := ite_t hl502 hc595
        refine CW.cond_t rfl hc595 ?_
        refine CW.seq ?_
        refine CW.region ?_
        refine OW.pure 1 [(2, .bool false)] (by kernel_rfl) ?_
        refine OW.nil rfl ?_
        refine QW.next ?_
        refine CW.ret ?_
        refine QW.then_ret ?_
        refine QW.block_ret ?_
        refine QW.then_ret ?_
        refine QW.then_ret ?_
        refine QW.block_ret ?_
        refine QW.then_ret ?_
        obtain rfl := Option.some.inj hl502
        obtain rfl := Option.some.inj hF
        refine QW.ret1 rfl rfl ?_
        exact ⟨rfl, hst.keep [] rfl⟩
       ·have hl502 := ite_f hl502 hc595
        refine CW.cond_f rfl hc595 ?_
        refine CW.skip ?_
        refine QW.next ?_
        refine CW.region ?_
        refine OW.pure 2 [(63, .string s503), (64, .string r527.1)] (by kernel_rfl) ?_
        obtain ⟨x598, hx599, hl502⟩ := bind_some' hl502
        refine OW.op (v := .string x598) rfl rfl rfl rfl (fun a ha => cat_run rfl rfl rfl (by kernel_rfl) hx599 a _ ha) ?_
        refine OW.pure 1 [(5, .string x598)] (by kernel_rfl) ?_
        refine OW.nil rfl ?_
        refine QW.block_normal ?_
        refine QW.next ?_
        refine CW.region ?_
        refine OW.pure 3 [(6, .int .i64 (w64 ((i504 : Int) + 1)))] (by kernel_rfl) ?_
        refine OW.nil rfl ?_
        refine QW.say 6 rfl (congrArg (Value.int .i64) (w64_cnt hc506 l1)) ?_
        exact QW.meet (fun a ha => ⟨n501, Nat.lt_succ_self _, i504 + 1, x598, cnt_next hi505, ha.agrees (by kernel_rfl), hst.keep [] rfl, hl502⟩)
   ·rcases n501 with _ | n501
    ·refine CW.cond_f rfl hc506 ?_
     refine CW.exit ?_
     refine QW.then_exit ?_
     refine QW.then_exit ?_
     refine QW.block_here ?_
     obtain rfl := Option.some.inj hl502
     exact QW.meet (fun a ha => ⟨s503, rfl, ha.agrees (by kernel_rfl), hst.keep [] rfl⟩)
    ·exact (cnt1 hi505 hc506).elim
  ·rintro a w1 ⟨t311, rfl, ha, hst⟩
   refine CW.go ?_ ha
   refine CW.seq ?_
   refine CW.cutK (fun a w1 => Rep 73 [(2, .bool ((r17.2 == 0) && sEq t311 r17.1))] a ∧ St w (fp []) w1 []) ?_ ?_
   ·refine CW.region ?_
    refine OW.pure 3 [(68, .bool (r17.2 == 0))] (by kernel_rfl) ?_
    refine OW.split 68 rfl (fun hc600 => ?_) (fun hc600 => ?_)
    ·refine OW.pure 5 [(2, .bool (sEq t311 r17.1))] (by kernel_rfl) ?_
     refine OW.nil rfl ?_
     refine QW.say 2 (v := .bool ((r17.2 == 0) && sEq t311 r17.1)) rfl (by first | (rw [hc600]; done) | (rw [hc600]; rfl) | simp [hc600]) ?_
     exact QW.meet (fun a ha => ⟨ha.agrees (by kernel_rfl), hst.keep [] rfl⟩)
    ·refine OW.pure 5 [(2, .bool false)] (by kernel_rfl) ?_
     refine OW.nil rfl ?_
     refine QW.say 2 (v := .bool ((r17.2 == 0) && sEq t311 r17.1)) rfl (by first | (rw [hc600]; done) | (rw [hc600]; rfl) | simp [hc600]) ?_
     exact QW.meet (fun a ha => ⟨ha.agrees (by kernel_rfl), hst.keep [] rfl⟩)
   ·rintro a w1 ⟨ha, hst⟩
    refine CW.go ?_ ha
    refine CW.ret ?_
    obtain rfl := Option.some.inj hF
    refine QW.ret1 rfl rfl ?_
    exact ⟨rfl, hst.keep [] rfl⟩

set_option maxRecDepth 10000 in
set_option maxHeartbeats 4000000 in
theorem tappetlaw03_LinesBack_ok (w : World) (fu : Nat) (v0 : Value) (p0 : List api_Inst) (p1 : ByteArray) (r : Bool) (hF : tappetlaw03_LinesBack fu p0 p1 = some r)
    (hst : St w (fp []) w []) (h0 : Rd w (fp []) v0 enc_api_Inst 5 p0) (hT0 : Rd w (fp []) (.slice (some ⟨0, 0, none⟩) 23 23) enc_ops_form 2 tab_g0) (hTL : LibG Tryd.prog 2 1 3 4 w (fp [])) :
    Calls Tryd.prog 5 [v0, .string p1].toArray w (fun e w' => e = .returned (.bool r) ∧ St w (fp []) w' []) := by
 refine CW.start (N := 83) Tryd.func5 rfl rfl rfl ?_
 obtain ⟨l1, a2, c3, rfl⟩ := h0.len
 refine CW.seq ?_
 refine CW.region ?_
 refine OW.pure 1 [] (by kernel_rfl) ?_
 refine OW.nil rfl ?_
 refine QW.next ?_
 refine CW.seq ?_
 refine CW.seq ?_
 refine CW.region ?_
 obtain ⟨r8, hr9, hF⟩ := bind_some' hF
 refine OW.fn rfl rfl rfl rfl (by kernel_rfl) (tappetlaw03_awake_ok _ fu r8 hr9 (hst.part [] rfl) (hT0.give hst []) (hTL.give hst [])) ?_
 rintro e w10 ⟨rfl, hst11⟩
 refine ⟨_, rfl, ?_⟩
 have hst := hst.join (idx := []) (rest := []) rfl hst11
 refine OW.pure 1 [(16, .bool (!r8))] (by kernel_rfl) ?_
 refine OW.nil rfl ?_
 refine QW.next ?_
 rcases Bool.eq_false_or_eq_true ((!r8)) with hc12 | hc12
 ·have hF := ite_t hF hc12
  refine CW.cond_t rfl hc12 ?_
  refine CW.seq ?_
  refine CW.region ?_
  refine OW.pure 1 [(4, .bool false)] (by kernel_rfl) ?_
  refine OW.nil rfl ?_
  refine QW.next ?_
  refine CW.ret ?_
  refine QW.then_ret ?_
  obtain rfl := Option.some.inj hF
  refine QW.ret1 rfl rfl ?_
  exact ⟨rfl, hst.keep [] rfl⟩
 ·have hF := ite_f hF hc12
  refine CW.cond_f rfl hc12 ?_
  refine CW.skip ?_
  refine QW.next ?_
  refine CW.seq ?_
  refine CW.region ?_
  refine OW.pure 1 [(18, .slice a2 (p0).length c3)] (by kernel_rfl) ?_
  obtain ⟨r17, hr18, hF⟩ := bind_some' hF
  refine OW.fn rfl rfl rfl rfl (by kernel_rfl) (lines_Print_ok _ fu (.slice a2 (p0).length c3) p0 r17 hr18 (hst.part [] rfl) (h0.give hst []) (hT0.give hst []) (hTL.give hst [])) ?_
  rintro e w19 ⟨rfl, hst20⟩
  refine ⟨_, rfl, ?_⟩
  have hst := hst.join (idx := []) (rest := []) rfl hst20
  refine OW.pure 5 [(5, .string r17.1), (6, .int .i64 r17.2)] (by kernel_rfl) ?_
  refine OW.nil rfl ?_
  refine QW.next ?_
  refine CW.seq ?_
  refine CW.seq ?_
  refine CW.region ?_
  refine OW.pure 2 [(23, .bool (r17.2 == 0))] (by kernel_rfl) ?_
  refine OW.nil rfl ?_
  refine QW.next ?_
  obtain ⟨o70, ho71, hF⟩ := bind_some' hF
  refine CW.cutK (fun a w1 => ∃ (t72 : Unit), o70 = .inl t72 ∧ Rep 83 [(1, .string p1)] a ∧ St w (fp []) w1 []) ?_ ?_
  ·rcases Bool.eq_false_or_eq_true ((r17.2 == 0)) with hc73 | hc73
   ·have ho71 := ite_t ho71 hc73
    refine CW.cond_t rfl hc73 ?_
    refine CW.seq ?_
    refine CW.region ?_
    refine OW.pure 1 [(25, .string r17.1)] (by kernel_rfl) ?_
    obtain ⟨r82, hr83, ho71⟩ := bind_some' ho71
    refine OW.fn rfl rfl rfl rfl (by kernel_rfl) (lines_Parse_ok _ fu r17.1 r82 hr83 (hst.part [] rfl) (hT0.give hst []) (hTL.give hst [])) ?_
    rintro e w84 ⟨v86, rfl, hst85⟩
    refine ⟨_, rfl, ?_⟩
    have hst := hst.join (idx := []) (rest := []) rfl hst85
    obtain ⟨l87, a88, c89, rfl⟩ := hst.len 0 rfl
    refine OW.pure 7 [(7, .slice a88 (r82.1).length c89), (8, .int .i64 r82.2.1), (9, .int .i64 r82.2.2)] (by kernel_rfl) ?_
    refine OW.nil rfl ?_
    refine QW.next ?_
    refine CW.seq ?_
    obtain ⟨o96, ho97, ho71⟩ := bind_some' ho71
    refine CW.cutK (fun a w1 => Rep 83 [(1, .string p1), (41, .bool o96)] a ∧ St w (fp []) w1 []) ?_ ?_
    ·refine CW.region ?_
     refine OW.pure 3 [(32, .bool (r82.2.2 != 0))] (by kernel_rfl) ?_
     refine OW.split 32 rfl (fun hc98 => ?_) (fun hc98 => ?_)
     ·have ho97 := ite_t ho97 hc98
      refine OW.pure 9 [(41, .bool true)] (by kernel_rfl) ?_
      refine OW.nil rfl ?_
      obtain rfl := Option.some.inj ho97
      exact QW.meet (fun a ha => ⟨ha.agrees (by kernel_rfl), hst.keep [] rfl⟩)
     ·have ho97 := ite_f ho97 hc98
      refine OW.pure 4 [(36, .bool (r82.2.1 != 0))] (by kernel_rfl) ?_
      refine OW.split 36 rfl (fun hc99 => ?_) (fun hc99 => ?_)
      ·have ho97 := ite_t ho97 hc99
       refine OW.pure 5 [(41, .bool true)] (by kernel_rfl) ?_
       refine OW.nil rfl ?_
       obtain rfl := Option.some.inj ho97
       exact QW.meet (fun a ha => ⟨ha.agrees (by kernel_rfl), hst.keep [] rfl⟩)
      ·have ho97 := ite_f ho97 hc99
       refine OW.pure 2 [(37, .slice a2 (p0).length c3), (38, .slice a88 (r82.1).length c89)] (by kernel_rfl) ?_
       obtain ⟨r100, hr101, ho97⟩ := bind_some' ho97
       refine OW.fn rfl rfl rfl rfl (by kernel_rfl) (tappetlaw03_alike_ok _ (.slice a2 (p0).length c3) p0 (.slice a88 (r82.1).length c89) r82.1 r100 hr101 (hst.part [] rfl) (h0.give hst []) (hst.rd 0 rfl (fun _ => rfl) [] rfl (hst.len 0 rfl).1)) ?_
       rintro e w102 ⟨rfl, hst103⟩
       refine ⟨_, rfl, ?_⟩
       have hst := hst.join (idx := []) (rest := [0]) rfl hst103
       refine OW.pure 2 [(41, .bool (!r100))] (by kernel_rfl) ?_
       refine OW.nil rfl ?_
       obtain rfl := Option.some.inj ho97
       exact QW.meet (fun a ha => ⟨ha.agrees (by kernel_rfl), hst.keep [] rfl⟩)
    ·rintro a w1 ⟨ha, hst⟩
     refine CW.go ?_ ha
     rcases Bool.eq_false_or_eq_true (o96) with hc104 | hc104
     ·have ho71 := ite_t ho71 hc104
      refine CW.cond_t rfl hc104 ?_
      refine CW.seq ?_
      refine CW.region ?_
      refine OW.pure 1 [(4, .bool false)] (by kernel_rfl) ?_
      refine OW.nil rfl ?_
      refine QW.next ?_
      refine CW.ret ?_
      refine QW.then_ret ?_
      obtain rfl := Option.some.inj ho71
      obtain rfl := Option.some.inj hF
      refine QW.ret1 rfl rfl ?_
      exact ⟨rfl, hst.keep [] rfl⟩
     ·have ho71 := ite_f ho71 hc104
      refine CW.cond_f rfl hc104 ?_
      refine CW.skip ?_
      obtain rfl := Option.some.inj ho71
      exact QW.meet (fun a ha => ⟨(), rfl, ha.agrees (by kernel_rfl), hst.keep [] rfl⟩)
   ·have ho71 := ite_f ho71 hc73
    refine CW.cond_f rfl hc73 ?_
    refine CW.seq ?_
    obtain ⟨o114, ho115, ho71⟩ := bind_some' ho71
    refine CW.cutK (fun a w1 => Rep 83 [(1, .string p1), (47, .bool o114)] a ∧ St w (fp []) w1 []) ?_ ?_
    ·refine CW.region ?_
     refine OW.pure 1 [(42, .slice a2 (p0).length c3)] (by kernel_rfl) ?_
     obtain ⟨r116, hr117, ho115⟩ := bind_some' ho115
     refine OW.fn rfl rfl rfl rfl (by kernel_rfl) (ops_Right_ok _ (.slice a2 (p0).length c3) p0 r116 hr117 (hst.part [] rfl) (h0.give hst []) (hT0.give hst [])) ?_
     rintro e w118 ⟨rfl, hst119⟩
     refine ⟨_, rfl, ?_⟩
     have hst := hst.join (idx := []) (rest := []) rfl hst119
     refine OW.pure 1 [(44, .bool r116)] (by kernel_rfl) ?_
     refine OW.split 44 rfl (fun hc120 => ?_) (fun hc120 => ?_)
     ·have ho115 := ite_t ho115 hc120
      refine OW.pure 3 [(47, .bool true)] (by kernel_rfl) ?_
      refine OW.nil rfl ?_
      obtain rfl := Option.some.inj ho115
      exact QW.meet (fun a ha => ⟨ha.agrees (by kernel_rfl), hst.keep [] rfl⟩)
     ·have ho115 := ite_f ho115 hc120
      refine OW.pure 3 [(47, .bool (sNe r17.1 ByteArray.empty))] (by kernel_rfl) ?_
      refine OW.nil rfl ?_
      obtain rfl := Option.some.inj ho115
      exact QW.meet (fun a ha => ⟨ha.agrees (by kernel_rfl), hst.keep [] rfl⟩)
    ·rintro a w1 ⟨ha, hst⟩
     refine CW.go ?_ ha
     rcases Bool.eq_false_or_eq_true (o114) with hc121 | hc121
     ·have ho71 := ite_t ho71 hc121
      refine CW.cond_t rfl hc121 ?_
      refine CW.seq ?_
      refine CW.region ?_
      refine OW.pure 1 [(4, .bool false)] (by kernel_rfl) ?_
      refine OW.nil rfl ?_
      refine QW.next ?_
      refine CW.ret ?_
      refine QW.then_ret ?_
      obtain rfl := Option.some.inj ho71
      obtain rfl := Option.some.inj hF
      refine QW.ret1 rfl rfl ?_
      exact ⟨rfl, hst.keep [] rfl⟩
     ·have ho71 := ite_f ho71 hc121
      refine CW.cond_f rfl hc121 ?_
      refine CW.skip ?_
      obtain rfl := Option.some.inj ho71
      exact QW.meet (fun a ha => ⟨(), rfl, ha.agrees (by kernel_rfl), hst.keep [] rfl⟩)
  ·rintro a w1 ⟨t72, rfl, ha, hst⟩
   refine CW.go ?_ ha
   refine CW.seq ?_
   refine CW.region ?_
   refine OW.pure 1 [(49, .string p1)] (by kernel_rfl) ?_
   obtain ⟨r130, hr131, hF⟩ := bind_some' hF
   refine OW.fn rfl rfl rfl rfl (by kernel_rfl) (lines_Parse_ok _ fu p1 r130 hr131 (hst.part [] rfl) (hT0.give hst []) (hTL.give hst [])) ?_
   rintro e w132 ⟨v134, rfl, hst133⟩
   refine ⟨_, rfl, ?_⟩
   have hst := hst.join (idx := []) (rest := []) rfl hst133
   obtain ⟨l135, a136, c137, rfl⟩ := hst.len 0 rfl
   refine OW.pure 7 [(10, .slice a136 (r130.1).length c137), (11, .int .i64 r130.2.1), (12, .int .i64 r130.2.2)] (by kernel_rfl) ?_
   refine OW.nil rfl ?_
   refine QW.next ?_
   refine CW.seq ?_
   refine CW.seq ?_
   refine CW.region ?_
   refine OW.pure 2 [(55, .bool (r130.2.2 != 0))] (by kernel_rfl) ?_
   refine OW.nil rfl ?_
   refine QW.next ?_
   rcases Bool.eq_false_or_eq_true ((r130.2.2 != 0)) with hc138 | hc138
   ·have hF := ite_t hF hc138
    refine CW.cond_t rfl hc138 ?_
    refine CW.seq ?_
    refine CW.cutK (fun a w1 => Rep 83 [(4, .bool (((r130.2.2 == 20) && decide (r130.2.1 ≥ 1)) && (((r130.1).length : Int) == 0)))] a ∧ St w (fp []) w1 []) ?_ ?_
    ·refine CW.region ?_
     refine OW.pure 3 [(58, .bool (r130.2.2 == 20))] (by kernel_rfl) ?_
     refine OW.split 58 rfl (fun hc139 => ?_) (fun hc139 => ?_)
     ·refine OW.pure 4 [(62, .bool (decide (r130.2.1 ≥ 1)))] (by kernel_rfl) ?_
      refine OW.split 62 rfl (fun hc140 => ?_) (fun hc140 => ?_)
      ·refine OW.pure 5 [(4, .bool (((r130.1).length : Int) == 0))] (by kernel_rfl) ?_
       refine OW.nil rfl ?_
       refine QW.say 4 (v := .bool (((r130.2.2 == 20) && decide (r130.2.1 ≥ 1)) && (((r130.1).length : Int) == 0))) rfl (by first | (rw [hc139, hc140]; done) | (rw [hc139, hc140]; rfl) | simp [hc139, hc140]) ?_
       exact QW.meet (fun a ha => ⟨ha.agrees (by kernel_rfl), hst.keep [] rfl⟩)
      ·refine OW.pure 5 [(4, .bool false)] (by kernel_rfl) ?_
       refine OW.nil rfl ?_
       refine QW.say 4 (v := .bool (((r130.2.2 == 20) && decide (r130.2.1 ≥ 1)) && (((r130.1).length : Int) == 0))) rfl (by first | (rw [hc139, hc140]; done) | (rw [hc139, hc140]; rfl) | simp [hc139, hc140]) ?_
       exact QW.meet (fun a ha => ⟨ha.agrees (by kernel_rfl), hst.keep [] rfl⟩)
     ·refine OW.pure 9 [(4, .bool false)] (by kernel_rfl) ?_
      refine OW.nil rfl ?_
      refine QW.say 4 (v := .bool (((r130.2.2 == 20) && decide (r130.2.1 ≥ 1)) && (((r130.1).length : Int) == 0))) rfl (by first | (rw [hc139]; done) | (rw [hc139]; rfl) | simp [hc139]) ?_
      exact QW.meet (fun a ha => ⟨ha.agrees (by kernel_rfl), hst.keep [] rfl⟩)
    ·rintro a w1 ⟨ha, hst⟩
     refine CW.go ?_ ha
     refine CW.ret ?_
     refine QW.then_ret ?_
     obtain rfl := Option.some.inj hF
     refine QW.ret1 rfl rfl ?_
     exact ⟨rfl, hst.keep [] rfl⟩
   ·have hF := ite_f hF hc138
    refine CW.cond_f rfl hc138 ?_
    refine CW.skip ?_
    refine QW.next ?_
    refine CW.seq ?_
    refine CW.region ?_
    refine OW.pure 1 [(68, .slice a136 (r130.1).length c137)] (by kernel_rfl) ?_
    obtain ⟨r145, hr146, hF⟩ := bind_some' hF
    refine OW.fn rfl rfl rfl rfl (by kernel_rfl) (lines_Print_ok _ fu (.slice a136 (r130.1).length c137) r130.1 r145 hr146 (hst.part [] rfl) (hst.rd 0 rfl (fun _ => rfl) [] rfl (hst.len 0 rfl).1) (hT0.give hst []) (hTL.give hst [])) ?_
    rintro e w147 ⟨rfl, hst148⟩
    refine ⟨_, rfl, ?_⟩
    have hst := hst.join (idx := []) (rest := [0]) rfl hst148
    refine OW.pure 5 [(13, .string r145.1), (14, .int .i64 r145.2)] (by kernel_rfl) ?_
    refine OW.nil rfl ?_
    refine QW.next ?_
    refine CW.seq ?_
    refine CW.cutK (fun a w1 => Rep 83 [(4, .bool (((r145.2 == 0) && sEq r145.1 p1) && (r130.2.1 == 0)))] a ∧ St w (fp []) w1 []) ?_ ?_
    ·refine CW.region ?_
     refine OW.pure 3 [(74, .bool (r145.2 == 0))] (by kernel_rfl) ?_
     refine OW.split 74 rfl (fun hc149 => ?_) (fun hc149 => ?_)
     ·refine OW.pure 5 [(79, .bool (sEq r145.1 p1))] (by kernel_rfl) ?_
      refine OW.split 79 rfl (fun hc150 => ?_) (fun hc150 => ?_)
      ·refine OW.pure 4 [(4, .bool (r130.2.1 == 0))] (by kernel_rfl) ?_
       refine OW.nil rfl ?_
       refine QW.say 4 (v := .bool (((r145.2 == 0) && sEq r145.1 p1) && (r130.2.1 == 0))) rfl (by first | (rw [hc149, hc150]; done) | (rw [hc149, hc150]; rfl) | simp [hc149, hc150]) ?_
       exact QW.meet (fun a ha => ⟨ha.agrees (by kernel_rfl), hst.keep [] rfl⟩)
      ·refine OW.pure 4 [(4, .bool false)] (by kernel_rfl) ?_
       refine OW.nil rfl ?_
       refine QW.say 4 (v := .bool (((r145.2 == 0) && sEq r145.1 p1) && (r130.2.1 == 0))) rfl (by first | (rw [hc149, hc150]; done) | (rw [hc149, hc150]; rfl) | simp [hc149, hc150]) ?_
       exact QW.meet (fun a ha => ⟨ha.agrees (by kernel_rfl), hst.keep [] rfl⟩)
     ·refine OW.pure 9 [(4, .bool false)] (by kernel_rfl) ?_
      refine OW.nil rfl ?_
      refine QW.say 4 (v := .bool (((r145.2 == 0) && sEq r145.1 p1) && (r130.2.1 == 0))) rfl (by first | (rw [hc149]; done) | (rw [hc149]; rfl) | simp [hc149]) ?_
      exact QW.meet (fun a ha => ⟨ha.agrees (by kernel_rfl), hst.keep [] rfl⟩)
    ·rintro a w1 ⟨ha, hst⟩
     refine CW.go ?_ ha
     refine CW.ret ?_
     obtain rfl := Option.some.inj hF
     refine QW.ret1 rfl rfl ?_
     exact ⟨rfl, hst.keep [] rfl⟩

set_option maxRecDepth 10000 in
set_option maxHeartbeats 4000000 in
theorem tappetlaw03_LinesJoined_ok (w : World) (fu : Nat) (p0 : ByteArray) (p1 : ByteArray) (r : Bool) (hF : tappetlaw03_LinesJoined fu p0 p1 = some r)
    (hst : St w (fp []) w []) (hT0 : Rd w (fp []) (.slice (some ⟨0, 0, none⟩) 23 23) enc_ops_form 2 tab_g0) (hTL : LibG Tryd.prog 2 1 3 4 w (fp [])) :
    Calls Tryd.prog 6 [.string p0, .string p1].toArray w (fun e w' => e = .returned (.bool r) ∧ St w (fp []) w' []) := by
 refine CW.start (N := 71) Tryd.func6 rfl rfl rfl ?_
 refine CW.seq ?_
 refine CW.region ?_
 refine OW.pure 1 [] (by kernel_rfl) ?_
 refine OW.nil rfl ?_
 refine QW.next ?_
 refine CW.seq ?_
 refine CW.seq ?_
 refine CW.region ?_
 obtain ⟨r5, hr6, hF⟩ := bind_some' hF
 refine OW.fn rfl rfl rfl rfl (by kernel_rfl) (tappetlaw03_awake_ok _ fu r5 hr6 (hst.part [] rfl) (hT0.give hst []) (hTL.give hst [])) ?_
 rintro e w7 ⟨rfl, hst8⟩
 refine ⟨_, rfl, ?_⟩
 have hst := hst.join (idx := []) (rest := []) rfl hst8
 refine OW.pure 1 [(15, .bool (!r5))] (by kernel_rfl) ?_
 refine OW.nil rfl ?_
 refine QW.next ?_
 rcases Bool.eq_false_or_eq_true ((!r5)) with hc9 | hc9
 ·have hF := ite_t hF hc9
  refine CW.cond_t rfl hc9 ?_
  refine CW.seq ?_
  refine CW.region ?_
  refine OW.pure 1 [(4, .bool false)] (by kernel_rfl) ?_
  refine OW.nil rfl ?_
  refine QW.next ?_
  refine CW.ret ?_
  refine QW.then_ret ?_
  obtain rfl := Option.some.inj hF
  refine QW.ret1 rfl rfl ?_
  exact ⟨rfl, hst.keep [] rfl⟩
 ·have hF := ite_f hF hc9
  refine CW.cond_f rfl hc9 ?_
  refine CW.skip ?_
  refine QW.next ?_
  refine CW.seq ?_
  refine CW.region ?_
  refine OW.pure 1 [(17, .string p0)] (by kernel_rfl) ?_
  obtain ⟨r18, hr19, hF⟩ := bind_some' hF
  refine OW.fn rfl rfl rfl rfl (by kernel_rfl) (lines_Parse_ok _ fu p0 r18 hr19 (hst.part [] rfl) (hT0.give hst []) (hTL.give hst [])) ?_
  rintro e w20 ⟨v22, rfl, hst21⟩
  refine ⟨_, rfl, ?_⟩
  have hst := hst.join (idx := []) (rest := []) rfl hst21
  obtain ⟨l23, a24, c25, rfl⟩ := hst.len 0 rfl
  refine OW.pure 7 [(5, .slice a24 (r18.1).length c25), (7, .int .i64 r18.2.2)] (by kernel_rfl) ?_
  refine OW.nil rfl ?_
  refine QW.next ?_
  refine CW.seq ?_
  refine CW.region ?_
  refine OW.pure 1 [(23, .string p1)] (by kernel_rfl) ?_
  obtain ⟨r34, hr35, hF⟩ := bind_some' hF
  refine OW.fn rfl rfl rfl rfl (by kernel_rfl) (lines_Parse_ok _ fu p1 r34 hr35 (hst.part [] rfl) (hT0.give hst []) (hTL.give hst [])) ?_
  rintro e w36 ⟨v38, rfl, hst37⟩
  refine ⟨_, rfl, ?_⟩
  have hst := hst.join (idx := []) (rest := [0]) rfl hst37
  obtain ⟨l39, a40, c41, rfl⟩ := hst.len 0 rfl
  refine OW.pure 7 [(8, .slice a40 (r34.1).length c41), (9, .int .i64 r34.2.1), (10, .int .i64 r34.2.2)] (by kernel_rfl) ?_
  refine OW.nil rfl ?_
  refine QW.next ?_
  refine CW.seq ?_
  refine CW.seq ?_
  refine CW.region ?_
  refine OW.pure 2 [(29, .bool (r18.2.2 != 0))] (by kernel_rfl) ?_
  refine OW.nil rfl ?_
  refine QW.next ?_
  rcases Bool.eq_false_or_eq_true ((r18.2.2 != 0)) with hc42 | hc42
  ·have hF := ite_t hF hc42
   refine CW.cond_t rfl hc42 ?_
   refine CW.seq ?_
   refine CW.region ?_
   refine OW.pure 1 [(4, .bool true)] (by kernel_rfl) ?_
   refine OW.nil rfl ?_
   refine QW.next ?_
   refine CW.ret ?_
   refine QW.then_ret ?_
   obtain rfl := Option.some.inj hF
   refine QW.ret1 rfl rfl ?_
   exact ⟨rfl, hst.keep [] rfl⟩
  ·have hF := ite_f hF hc42
   refine CW.cond_f rfl hc42 ?_
   refine CW.skip ?_
   refine QW.next ?_
   refine CW.seq ?_
   refine CW.region ?_
   refine OW.pure 2 [(31, .string p0), (32, .string p1)] (by kernel_rfl) ?_
   obtain ⟨x53, hx54, hF⟩ := bind_some' hF
   refine OW.op (v := .string x53) rfl rfl rfl rfl (fun a ha => cat_run rfl rfl rfl (by kernel_rfl) hx54 a _ ha) ?_
   obtain ⟨r55, hr56, hF⟩ := bind_some' hF
   refine OW.fn rfl rfl rfl rfl (by kernel_rfl) (lines_Parse_ok _ fu x53 r55 hr56 (hst.part [] rfl) (hT0.give hst []) (hTL.give hst [])) ?_
   rintro e w57 ⟨v59, rfl, hst58⟩
   refine ⟨_, rfl, ?_⟩
   have hst := hst.join (idx := []) (rest := [0, 1]) rfl hst58
   obtain ⟨l60, a61, c62, rfl⟩ := hst.len 0 rfl
   refine OW.pure 7 [(11, .slice a61 (r55.1).length c62), (12, .int .i64 r55.2.1), (13, .int .i64 r55.2.2)] (by kernel_rfl) ?_
   refine OW.nil rfl ?_
   refine QW.next ?_
   refine CW.seq ?_
   refine CW.seq ?_
   refine CW.region ?_
   refine OW.pure 2 [(39, .bool (r34.2.2 != 0))] (by kernel_rfl) ?_
   refine OW.nil rfl ?_
   refine QW.next ?_
   rcases Bool.eq_false_or_eq_true ((r34.2.2 != 0)) with hc63 | hc63
   ·have hF := ite_t hF hc63
    refine CW.cond_t rfl hc63 ?_
    refine CW.seq ?_
    refine CW.cutK (fun a w1 => Rep 71 [(4, .bool (((r55.2.2 == r34.2.2) && (r55.2.1 == (w64 (r34.2.1 + ((r18.1).length : Int))))) && (((r55.1).length : Int) == 0)))] a ∧ St w (fp []) w1 []) ?_ ?_
    ·refine CW.region ?_
     refine OW.pure 4 [(43, .bool (r55.2.2 == r34.2.2))] (by kernel_rfl) ?_
     refine OW.split 43 rfl (fun hc64 => ?_) (fun hc64 => ?_)
     ·refine OW.pure 8 [(51, .bool (r55.2.1 == (w64 (r34.2.1 + ((r18.1).length : Int)))))] (by kernel_rfl) ?_
      refine OW.split 51 rfl (fun hc65 => ?_) (fun hc65 => ?_)
      ·refine OW.pure 5 [(4, .bool (((r55.1).length : Int) == 0))] (by kernel_rfl) ?_
       refine OW.nil rfl ?_
       refine QW.say 4 (v := .bool (((r55.2.2 == r34.2.2) && (r55.2.1 == (w64 (r34.2.1 + ((r18.1).length : Int))))) && (((r55.1).length : Int) == 0))) rfl (by first | (rw [hc64, hc65]; done) | (rw [hc64, hc65]; rfl) | simp [hc64, hc65]) ?_
       exact QW.meet (fun a ha => ⟨ha.agrees (by kernel_rfl), hst.keep [] rfl⟩)
      ·refine OW.pure 5 [(4, .bool false)] (by kernel_rfl) ?_
       refine OW.nil rfl ?_
       refine QW.say 4 (v := .bool (((r55.2.2 == r34.2.2) && (r55.2.1 == (w64 (r34.2.1 + ((r18.1).length : Int))))) && (((r55.1).length : Int) == 0))) rfl (by first | (rw [hc64, hc65]; done) | (rw [hc64, hc65]; rfl) | simp [hc64, hc65]) ?_
       exact QW.meet (fun a ha => ⟨ha.agrees (by kernel_rfl), hst.keep [] rfl⟩)
     ·refine OW.pure 13 [(4, .bool false)] (by kernel_rfl) ?_
      refine OW.nil rfl ?_
      refine QW.say 4 (v := .bool (((r55.2.2 == r34.2.2) && (r55.2.1 == (w64 (r34.2.1 + ((r18.1).length : Int))))) && (((r55.1).length : Int) == 0))) rfl (by first | (rw [hc64]; done) | (rw [hc64]; rfl) | simp [hc64]) ?_
      exact QW.meet (fun a ha => ⟨ha.agrees (by kernel_rfl), hst.keep [] rfl⟩)
    ·rintro a w1 ⟨ha, hst⟩
     refine CW.go ?_ ha
     refine CW.ret ?_
     refine QW.then_ret ?_
     obtain rfl := Option.some.inj hF
     refine QW.ret1 rfl rfl ?_
     exact ⟨rfl, hst.keep [] rfl⟩
   ·have hF := ite_f hF hc63
    refine CW.cond_f rfl hc63 ?_
    refine CW.skip ?_
    refine QW.next ?_
    refine CW.seq ?_
    obtain ⟨o88, ho89, hF⟩ := bind_some' hF
    refine CW.cutK (fun a w1 => Rep 71 [(4, .bool o88)] a ∧ St w (fp []) w1 []) ?_ ?_
    ·refine CW.region ?_
     refine OW.pure 3 [(58, .bool (r55.2.2 == 0))] (by kernel_rfl) ?_
     refine OW.split 58 rfl (fun hc90 => ?_) (fun hc90 => ?_)
     ·have ho89 := ite_t ho89 hc90
      refine OW.pure 4 [(62, .bool (r55.2.1 == 0))] (by kernel_rfl) ?_
      refine OW.split 62 rfl (fun hc91 => ?_) (fun hc91 => ?_)
      ·have ho89 := ite_t ho89 hc91
       refine OW.pure 1 [(63, .slice a61 (r55.1).length c62)] (by kernel_rfl) ?_
       refine OW.row (α := api_Inst) (e := 32) (enc := enc_api_Inst) (sz := 5) hst rfl rfl rfl [] rfl (fun _ => rfl) rfl rfl (fun _ => by kernel_rfl) ?_
       intro g92 w93 hst
       refine OW.pure 1 [(65, .slice a24 (r18.1).length c25)] (by kernel_rfl) ?_
       obtain ⟨u94, hr95, ho89⟩ := bind_some' ho89
       refine OW.app hst 3 rfl (fun _ => rfl) (fun _ => rfl) rfl rfl rfl rfl rfl rfl (by kernel_rfl) el32 (hst.rd 2 rfl (fun _ => rfl) [] rfl (hst.len 2 rfl).1) (room_le hr95) ?_
       intro v96 w97 hst
       obtain ⟨l98, a99, c100, rfl⟩ := hst.len 3 rfl
       refine OW.pure 1 [(67, .slice a40 (r34.1).length c41)] (by kernel_rfl) ?_
       obtain ⟨u101, hr102, ho89⟩ := bind_some' ho89
       refine OW.app hst 3 rfl (fun _ => rfl) (fun _ => rfl) rfl rfl rfl rfl rfl rfl (by kernel_rfl) el32 (hst.rd 1 rfl (fun _ => rfl) [] rfl (hst.len 1 rfl).1) (room_le hr102) ?_
       intro v103 w104 hst
       obtain ⟨l105, a106, c107, rfl⟩ := hst.len 3 rfl
       obtain ⟨r108, hr109, ho89⟩ := bind_some' ho89
       refine OW.fn rfl rfl rfl rfl (by kernel_rfl) (tappetlaw03_alike_ok _ (.slice a61 (r55.1).length c62) r55.1 (.slice a106 (((([] : List api_Inst) ++ r18.1) ++ r34.1)).length c107) ((([] : List api_Inst) ++ r18.1) ++ r34.1) r108 hr109 (hst.part [] rfl) (hst.rd 0 rfl (fun _ => rfl) [] rfl (hst.len 0 rfl).1) (hst.rd 3 rfl (fun _ => rfl) [] rfl (hst.len 3 rfl).1)) ?_
       rintro e w110 ⟨rfl, hst111⟩
       refine ⟨_, rfl, ?_⟩
       have hst := hst.join (idx := []) (rest := [0, 1, 2, 3]) rfl hst111
       refine OW.pure 2 [(4, .bool r108)] (by kernel_rfl) ?_
       refine OW.nil rfl ?_
       obtain rfl := Option.some.inj ho89
       exact QW.meet (fun a ha => ⟨ha.agrees (by kernel_rfl), hst.keep [] rfl⟩)
      ·have ho89 := ite_f ho89 hc91
       refine OW.pure 9 [(4, .bool false)] (by kernel_rfl) ?_
       refine OW.nil rfl ?_
       obtain rfl := Option.some.inj ho89
       exact QW.meet (fun a ha => ⟨ha.agrees (by kernel_rfl), hst.keep [] rfl⟩)
     ·have ho89 := ite_f ho89 hc90
      refine OW.pure 13 [(4, .bool false)] (by kernel_rfl) ?_
      refine OW.nil rfl ?_
      obtain rfl := Option.some.inj ho89
      exact QW.meet (fun a ha => ⟨ha.agrees (by kernel_rfl), hst.keep [] rfl⟩)
    ·rintro a w1 ⟨ha, hst⟩
     refine CW.go ?_ ha
     refine CW.ret ?_
     obtain rfl := Option.some.inj hF
     refine QW.ret1 rfl rfl ?_
     exact ⟨rfl, hst.keep [] rfl⟩


end Go.Proofs.YteaedkohbgediaaDoor

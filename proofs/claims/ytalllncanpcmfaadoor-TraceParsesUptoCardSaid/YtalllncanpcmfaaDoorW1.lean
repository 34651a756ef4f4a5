/- Written by a program (wip/gen): the walks: each Go function returns what its plain function computes. -/
import Derived.Test.YtalllncanpcmfaaDoorProg
import Derived.Test.YtalllncanpcmfaaDoorF1
import Derived.Test.YtalllncanpcmfaaDoorOpen
import Derived.Test.YtalllncanpcmfaaDoorPart
import Derived.Test.YtalllncanpcmfaaDoorExt
import Derived.Test.YtalllncanpcmfaaDoorSh
import Derived.Test.YtalllncanpcmfaaDoorBld
import Derived.Test.YtalllncanpcmfaaDoorO1
import Derived.Test.YtalllncanpcmfaaDoorW1p2
namespace Go.Proofs.YtalllncanpcmfaaDoor
open Go.Sx
set_option linter.unusedVariables false

set_option maxRecDepth 10000 in
set_option maxHeartbeats 4000000 in
theorem trace_Only_ok (w : World) (v0 : Value) (p0 : List api_Entry) (v1 : Value) (p1 : List Int) (r : (List api_Entry)) (hF : trace_Only p0 p1 = some r)
    (hst : St w (fp []) w []) (h0 : Rd w (fp []) v0 enc_api_Entry 22 p0) (h1 : Rd w (fp []) v1 (encInt .i64) 1 p1) :
    Calls Tryd.prog 18 [v0, v1].toArray w (fun e w' => ∃ (x0 : Value), e = .returned (x0) ∧ St w (fp []) w' [rowI x0 46 enc_api_Entry 22 r]) := by
 refine CW.start (N := 8) Tryd.func18 rfl rfl rfl ?_
 obtain ⟨l1, a2, c3, rfl⟩ := h0.len
 obtain ⟨l4, a5, c6, rfl⟩ := h1.len
 refine CW.seq ?_
 refine CW.region ?_
 refine OW.box hst rfl rfl rfl rfl [.slice a5 (p1).length c6] rfl ?_
 intro b9 w10 hst
 refine OW.pure 1 [] (by kernel_rfl) ?_
 refine OW.nil rfl ?_
 refine QW.next ?_
 refine CW.seq ?_
 refine CW.region ?_
 refine OW.pure 2 [(5, .slice a2 (p0).length c3), (6, .func (.func 34) #[] #[.pointer (some ⟨b9, 0, none⟩)])] (by kernel_rfl) ?_
 obtain ⟨r19, hr20, hF⟩ := bind_some' hF
 refine OW.fn rfl rfl rfl rfl (by kernel_rfl) (trace_kept_34_ok _ (.slice a2 (p0).length c3) p0 b9 (.slice a5 (p1).length c6) p1 r19 hr20 (hst.part [] rfl) (h0.give hst []) (h1.give hst []) (hst.rdB 0 rfl [] rfl)) ?_
 rintro e w21 ⟨v23, rfl, hst22⟩
 refine ⟨_, rfl, ?_⟩
 have hst := hst.join (idx := []) (rest := [0]) rfl hst22
 obtain ⟨l24, a25, c26, rfl⟩ := hst.len 0 rfl
 refine OW.pure 1 [(4, .slice a25 (r19).length c26)] (by kernel_rfl) ?_
 refine OW.nil rfl ?_
 refine QW.next ?_
 refine CW.ret ?_
 obtain rfl := Option.some.inj hF
 refine QW.ret1 rfl rfl ?_
 exact ⟨(.slice a25 (r19).length c26), rfl, hst.keep [0] rfl⟩

set_option maxRecDepth 10000 in
set_option maxHeartbeats 4000000 in
theorem tappetlaw26_TraceEach_ok (w : World) (fu : Nat) (v0 : Value) (p0 : List api_Entry) (p1 : Int) (r : Bool) (hF : tappetlaw26_TraceEach fu p0 p1 = some r)
    (hst : St w (fp []) w []) (h0 : Rd w (fp []) v0 enc_api_Entry 22 p0) (hT0 : Rd w (fp []) (.slice (some ⟨0, 0, none⟩) 18 18) enc_trace_form 2 tab_g0) (hTL : LibG Tryd.prog 4 1 2 3 w (fp [])) :
    Calls Tryd.prog 6 [v0, .int .i64 p1].toArray w (fun e w' => e = .returned (.bool r) ∧ St w (fp []) w' []) := by
 refine CW.start (N := 83) Tryd.func6 rfl rfl rfl ?_
 obtain ⟨l1, a2, c3, rfl⟩ := h0.len
 refine CW.seq ?_
 refine CW.region ?_
 refine OW.pure 1 [] (by kernel_rfl) ?_
 refine OW.nil rfl ?_
 refine QW.next ?_
 refine CW.seq ?_
 refine CW.seq ?_
 refine CW.region ?_
 obtain ⟨r8, hr9, hF⟩ := bind_some' hF
 refine OW.fn rfl rfl rfl rfl (by kernel_rfl) (tappetlaw26_awake_ok _ fu r8 hr9 (hst.part [] rfl) (hT0.give hst []) (hTL.give hst [])) ?_
 rintro e w10 ⟨rfl, hst11⟩
 refine ⟨_, rfl, ?_⟩
 have hst := hst.join (idx := []) (rest := []) rfl hst11
 refine OW.pure 1 [(16, .bool (!r8))] (by kernel_rfl) ?_
 refine OW.nil rfl ?_
 refine QW.next ?_
 rcases Bool.eq_false_or_eq_true ((!r8)) with hc12 | hc12
 ·have hF := ite_t hF hc12
  refine CW.cond_t rfl hc12 ?_
  refine CW.seq ?_
  refine CW.region ?_
  refine OW.pure 1 [(4, .bool false)] (by kernel_rfl) ?_
  refine OW.nil rfl ?_
  refine QW.next ?_
  refine CW.ret ?_
  refine QW.then_ret ?_
  obtain rfl := Option.some.inj hF
  refine QW.ret1 rfl rfl ?_
  exact ⟨rfl, hst.keep [] rfl⟩
 ·have hF := ite_f hF hc12
  refine CW.cond_f rfl hc12 ?_
  refine CW.skip ?_
  refine QW.next ?_
  refine CW.seq ?_
  refine CW.region ?_
  refine OW.pure 1 [(18, .slice a2 (p0).length c3)] (by kernel_rfl) ?_
  obtain ⟨r17, hr18, hF⟩ := bind_some' hF
  refine OW.fn rfl rfl rfl rfl (by kernel_rfl) (trace_Print_ok _ fu (.slice a2 (p0).length c3) p0 r17 hr18 (hst.part [] rfl) (h0.give hst []) (hT0.give hst []) (hTL.give hst [])) ?_
  rintro e w19 ⟨rfl, hst20⟩
  refine ⟨_, rfl, ?_⟩
  have hst := hst.join (idx := []) (rest := []) rfl hst20
  refine OW.pure 5 [(5, .string r17.1), (6, .int .i64 r17.2)] (by kernel_rfl) ?_
  refine OW.nil rfl ?_
  refine QW.next ?_
  refine CW.seq ?_
  refine CW.region ?_
  refine OW.pure 1 [(7, .string ByteArray.empty)] (by kernel_rfl) ?_
  refine OW.nil rfl ?_
  refine QW.next ?_
  refine CW.seq ?_
  refine CW.seq ?_
  refine CW.region ?_
  refine OW.pure 1 [(8, .int .i64 0)] (by kernel_rfl) ?_
  refine OW.nil rfl ?_
  refine QW.next ?_
  obtain ⟨o120, ho121, hF⟩ := bind_some' hF
  refine CW.cutK (fun a w1 => ∃ (t122 : ByteArray), o120 = .inl t122 ∧ Rep 83 [(0, .slice a2 (p0).length c3), (1, .int .i64 p1), (5, .string r17.1), (6, .int .i64 r17.2), (7, .string t122)] a ∧ St w (fp []) w1 []) ?_ ?_
  ·refine CW.block ?_
   refine CW.loop (fun n a w1 => ∃ (i189 : Nat) (s188 : ByteArray), i189 + n = (p0).length ∧ Rep 83 [(0, .slice a2 (p0).length c3), (1, .int .i64 p1), (5, .string r17.1), (6, .int .i64 r17.2), (7, .string s188), (8, .int .i64 (i189 : Int))] a ∧ St w (fp []) w1 [] ∧ forN (tappetlaw26_TraceEach_l1 fu p0 r17) (fun (s188 : ByteArray) => (.inl s188)) n i189 s188 = some o120) (p0).length (fun a ha => ⟨0, ByteArray.empty, Nat.zero_add _, ha.agrees (by kernel_rfl), hst.keep [] rfl, ho121⟩) ?_
   rintro n186 a w1 ⟨i189, s188, hi190, ha, hst, hl187⟩
   refine CW.go ?_ ha
   refine CW.seq ?_
   refine CW.seq ?_
   refine CW.region ?_
   refine OW.pure 4 [(25, .bool (decide ((i189 : Int) < ((p0).length : Int))))] (by kernel_rfl) ?_
   refine OW.nil rfl ?_
   refine QW.next ?_
   rcases Bool.eq_false_or_eq_true (decide ((i189 : Int) < ((p0).length : Int))) with hc191 | hc191
   ·rcases n186 with _ | n186
    ·exact (cnt0 hi190 hc191).elim
    refine CW.cond_t rfl hc191 ?_
    refine CW.skip ?_
    refine QW.next ?_
    refine CW.seq ?_
    refine CW.block ?_
    refine CW.seq ?_
    refine CW.region ?_
    refine OW.pure 2 [(29, .slice a2 (p0).length c3), (30, .int .i64 (i189 : Int))] (by kernel_rfl) ?_
    obtain ⟨x204, hx205, hl187⟩ := bind_some' hl187
    obtain ⟨g207, o208, c209, hv206⟩ := h0.formv (fun _ => ⟨_, rfl⟩) hx205
    refine OW.idx 46 22 rfl rfl rfl rfl hv206 rfl (idx_some hx205).1 (idx_some hx205).2.1 (by kernel_rfl) (by kernel_rfl) ?_
    refine OW.ldN (cs := enc_api_Entry x204) rfl rfl rfl rfl (by kernel_rfl) (by kernel_rfl) (h0.cellv hst hx205 hv206) ?_
    refine OW.row (α := api_Entry) (e := 46) (enc := enc_api_Entry) (sz := 22) hst rfl rfl rfl [x204] rfl (fun _ => rfl) rfl rfl (fun _ => by kernel_rfl) ?_
    intro g210 w211 hst
    obtain ⟨r212, hr213, hl187⟩ := bind_some' hl187
    refine OW.fn rfl rfl rfl rfl (by kernel_rfl) (trace_Print_ok _ fu (.slice (some ⟨g210, 0, none⟩) 1 1) ([x204]) r212 hr213 (hst.part [] rfl) (hst.rd 0 rfl (fun _ => rfl) [] rfl (hst.len 0 rfl).1) (hT0.give hst []) (hTL.give hst [])) ?_
    rintro e w214 ⟨rfl, hst215⟩
    refine ⟨_, rfl, ?_⟩
    have hst := hst.join (idx := []) (rest := [0]) rfl hst215
    refine OW.pure 5 [(9, .string r212.1), (10, .int .i64 r212.2)] (by kernel_rfl) ?_
    refine OW.nil rfl ?_
    refine QW.next ?_
    refine CW.seq ?_
    refine CW.seq ?_
    refine CW.region ?_
    refine OW.pure 2 [(38, .bool (r212.2 != 0))] (by kernel_rfl) ?_
    refine OW.nil rfl ?_
    refine QW.next ?_
    rcases Bool.eq_false_or_eq_true ((r212.2 != 0)) with hc216 | hc216
    ·have hl187 := ite_t hl187 hc216
     refine CW.cond_t rfl hc216 ?_
     refine CW.seq ?_
     refine CW.cutK (fun a w1 => Rep 83 [(4, .bool ((r17.2 == 12) && sEq r17.1 ByteArray.empty))] a ∧ St w (fp []) w1 []) ?_ ?_
     ·refine CW.region ?_
      refine OW.pure 3 [(41, .bool (r17.2 == 12))] (by kernel_rfl) ?_
      refine OW.split 41 rfl (fun hc217 => ?_) (fun hc217 => ?_)
      ·refine OW.pure 4 [(4, .bool (sEq r17.1 ByteArray.empty))] (by kernel_rfl) ?_
       refine OW.nil rfl ?_
       refine QW.say 4 (v := .bool ((r17.2 == 12) && sEq r17.1 ByteArray.empty)) rfl (by first | (rw [hc217]; done) | (rw [hc217]; rfl) | simp [hc217]) ?_
       exact QW.meet (fun a ha => ⟨ha.agrees (by kernel_rfl), hst.keep [] rfl⟩)
      ·refine OW.pure 4 [(4, .bool false)] (by kernel_rfl) ?_
       refine OW.nil rfl ?_
       refine QW.say 4 (v := .bool ((r17.2 == 12) && sEq r17.1 ByteArray.empty)) rfl (by first | (rw [hc217]; done) | (rw [hc217]; rfl) | simp [hc217]) ?_
       exact QW.meet (fun a ha => ⟨ha.agrees (by kernel_rfl), hst.keep [] rfl⟩)
     ·rintro a w1 ⟨ha, hst⟩
      refine CW.go ?_ ha
      refine CW.ret ?_
      refine QW.then_ret ?_
      refine QW.block_ret ?_
      refine QW.then_ret ?_
      refine QW.then_ret ?_
      refine QW.block_ret ?_
      refine QW.then_ret ?_
      obtain rfl := Option.some.inj hl187
      obtain rfl := Option.some.inj hF
      refine QW.ret1 rfl rfl ?_
      exact ⟨rfl, hst.keep [] rfl⟩
    ·have hl187 := ite_f hl187 hc216
     refine CW.cond_f rfl hc216 ?_
     refine CW.skip ?_
     refine QW.next ?_
     refine CW.region ?_
     refine OW.pure 2 [(45, .string s188), (46, .string r212.1)] (by kernel_rfl) ?_
     obtain ⟨x220, hx221, hl187⟩ := bind_some' hl187
     refine OW.op (v := .string x220) rfl rfl rfl rfl (fun a ha => cat_run rfl rfl rfl (by kernel_rfl) hx221 a _ ha) ?_
     refine OW.pure 1 [(7, .string x220)] (by kernel_rfl) ?_
     refine OW.nil rfl ?_
     refine QW.block_normal ?_
     refine QW.next ?_
     refine CW.region ?_
     refine OW.pure 3 [(8, .int .i64 (w64 ((i189 : Int) + 1)))] (by kernel_rfl) ?_
     refine OW.nil rfl ?_
     refine QW.say 8 rfl (congrArg (Value.int .i64) (w64_cnt hc191 l1)) ?_
     exact QW.meet (fun a ha => ⟨n186, Nat.lt_succ_self _, i189 + 1, x220, cnt_next hi190, ha.agrees (by kernel_rfl), hst.keep [] rfl, hl187⟩)
   ·rcases n186 with _ | n186
    ·refine CW.cond_f rfl hc191 ?_
     refine CW.exit ?_
     refine QW.then_exit ?_
     refine QW.then_exit ?_
     refine QW.block_here ?_
     obtain rfl := Option.some.inj hl187
     exact QW.meet (fun a ha => ⟨s188, rfl, ha.agrees (by kernel_rfl), hst.keep [] rfl⟩)
    ·exact (cnt1 hi190 hc191).elim
  ·rintro a w1 ⟨t122, rfl, ha, hst⟩
   refine CW.go ?_ ha
   refine CW.seq ?_
   refine CW.region ?_
   refine OW.pure 1 [(11, .slice none 0 0)] (by kernel_rfl) ?_
   refine OW.nil rfl ?_
   refine QW.next ?_
   refine CW.seq ?_
   refine CW.seq ?_
   refine CW.region ?_
   refine OW.pure 1 [(12, .int .i64 0)] (by kernel_rfl) ?_
   refine OW.nil rfl ?_
   refine QW.next ?_
   obtain ⟨o302, ho303, hF⟩ := bind_some' hF
   refine CW.cutK (fun a w1 => ∃ (v301 : Value), Rep 83 [(0, .slice a2 (p0).length c3), (1, .int .i64 p1), (5, .string r17.1), (6, .int .i64 r17.2), (7, .string t122), (11, v301)] a ∧ St w (fp []) w1 [rowI v301 36 (encInt .i64) 1 o302]) ?_ ?_
   ·refine CW.block ?_
    have hst := hst.nilRow Int 36 (encInt .i64) 1
    refine CW.loop (fun n a w1 => ∃ (i357 : Nat) (s355 : (List Int)) (v356 : Value), i357 + n = 20 ∧ Rep 83 [(0, .slice a2 (p0).length c3), (1, .int .i64 p1), (5, .string r17.1), (6, .int .i64 r17.2), (7, .string t122), (11, v356), (12, .int .i64 (i357 : Int))] a ∧ St w (fp []) w1 [rowI v356 36 (encInt .i64) 1 s355] ∧ forN (tappetlaw26_TraceEach_l2 p1) (fun (s355 : (List Int)) => s355) n i357 s355 = some o302) 20 (fun a ha => ⟨0, ([] : List Int), (.slice none 0 0), Nat.zero_add _, ha.agrees (by kernel_rfl), hst.keep [0] rfl, ho303⟩) ?_
    rintro n353 a w1 ⟨i357, s355, v356, hi358, ha, hst, hl354⟩
    refine CW.go ?_ ha
    obtain ⟨l359, a360, c361, rfl⟩ := hst.len 0 rfl
    refine CW.seq ?_
    refine CW.seq ?_
    refine CW.region ?_
    refine OW.pure 2 [(49, .bool (decide ((i357 : Int) < 20)))] (by kernel_rfl) ?_
    refine OW.nil rfl ?_
    refine QW.next ?_
    rcases Bool.eq_false_or_eq_true (decide ((i357 : Int) < 20)) with hc362 | hc362
    ·rcases n353 with _ | n353
     ·exact (cnt0 hi358 hc362).elim
     refine CW.cond_t rfl hc362 ?_
     refine CW.skip ?_
     refine QW.next ?_
     refine CW.seq ?_
     refine CW.block ?_
     refine CW.seq ?_
     refine CW.region ?_
     refine OW.pure 3 [(54, .bool ((i357 : Int) != p1))] (by kernel_rfl) ?_
     refine OW.nil rfl ?_
     refine QW.next ?_
     rcases Bool.eq_false_or_eq_true (((i357 : Int) != p1)) with hc363 | hc363
     ·have hl354 := ite_t hl354 hc363
      refine CW.cond_t rfl hc363 ?_
      refine CW.region ?_
      refine OW.pure 2 [(55, .slice a360 (s355).length c361), (56, .int .i64 (i357 : Int))] (by kernel_rfl) ?_
      refine OW.row (α := Int) (e := 36) (enc := encInt .i64) (sz := 1) hst rfl rfl rfl [(i357 : Int)] rfl (fun _ => rfl) rfl rfl (fun _ => by kernel_rfl) ?_
      intro g373 w374 hst
      obtain ⟨u375, hr376, hl354⟩ := bind_some' hl354
      refine OW.app hst 0 rfl (fun _ => rfl) (fun _ => rfl) rfl rfl rfl rfl rfl rfl (by kernel_rfl) el36 (hst.rd 1 rfl (fun _ => rfl) [] rfl (hst.len 1 rfl).1) (room_le hr376) ?_
      intro v377 w378 hst
      obtain ⟨l379, a380, c381, rfl⟩ := hst.len 0 rfl
      refine OW.pure 1 [(11, .slice a380 ((s355 ++ [(i357 : Int)])).length c381)] (by kernel_rfl) ?_
      refine OW.nil rfl ?_
      refine QW.block_normal ?_
      refine QW.next ?_
      refine CW.region ?_
      refine OW.pure 3 [(12, .int .i64 (w64 ((i357 : Int) + 1)))] (by kernel_rfl) ?_
      refine OW.nil rfl ?_
      refine QW.say 12 rfl (congrArg (Value.int .i64) (w64_cnt hc362 (by decide))) ?_
      exact QW.meet (fun a ha => ⟨n353, Nat.lt_succ_self _, i357 + 1, (s355 ++ [(i357 : Int)]), (.slice a380 ((s355 ++ [(i357 : Int)])).length c381), cnt_next hi358, ha.agrees (by kernel_rfl), hst.keep [0] rfl, hl354⟩)
     ·have hl354 := ite_f hl354 hc363
      refine CW.cond_f rfl hc363 ?_
      refine CW.skip ?_
      refine QW.block_normal ?_
      refine QW.next ?_
      refine CW.region ?_
      refine OW.pure 3 [(12, .int .i64 (w64 ((i357 : Int) + 1)))] (by kernel_rfl) ?_
      refine OW.nil rfl ?_
      refine QW.say 12 rfl (congrArg (Value.int .i64) (w64_cnt hc362 (by decide))) ?_
      exact QW.meet (fun a ha => ⟨n353, Nat.lt_succ_self _, i357 + 1, s355, (.slice a360 (s355).length c361), cnt_next hi358, ha.agrees (by kernel_rfl), hst.keep [0] rfl, hl354⟩)
    ·rcases n353 with _ | n353
     ·refine CW.cond_f rfl hc362 ?_
      refine CW.exit ?_
      refine QW.then_exit ?_
      refine QW.then_exit ?_
      refine QW.block_here ?_
      obtain rfl := Option.some.inj hl354
      exact QW.meet (fun a ha => ⟨(.slice a360 (s355).length c361), ha.agrees (by kernel_rfl), hst.keep [0] rfl⟩)
     ·exact (cnt1 hi358 hc362).elim
   ·rintro a w1 ⟨v301, ha, hst⟩
    refine CW.go ?_ ha
    obtain ⟨l385, a386, c387, rfl⟩ := hst.len 0 rfl
    refine CW.seq ?_
    refine CW.region ?_
    refine OW.pure 2 [(59, .slice a2 (p0).length c3), (60, .int .i64 p1)] (by kernel_rfl) ?_
    refine OW.row (α := Int) (e := 36) (enc := encInt .i64) (sz := 1) hst rfl rfl rfl [p1] rfl (fun _ => rfl) rfl rfl (fun _ => by kernel_rfl) ?_
    intro g398 w399 hst
    obtain ⟨r400, hr401, hF⟩ := bind_some' hF
    refine OW.fn rfl rfl rfl rfl (by kernel_rfl) (trace_Only_ok _ (.slice a2 (p0).length c3) p0 (.slice (some ⟨g398, 0, none⟩) 1 1) ([p1]) r400 hr401 (hst.part [] rfl) (h0.give hst []) (hst.rd 1 rfl (fun _ => rfl) [] rfl (hst.len 1 rfl).1)) ?_
    rintro e w402 ⟨v404, rfl, hst403⟩
    refine ⟨_, rfl, ?_⟩
    have hst := hst.join (idx := []) (rest := [0, 1]) rfl hst403
    obtain ⟨l405, a406, c407, rfl⟩ := hst.len 0 rfl
    refine OW.pure 1 [(13, .slice a406 (r400).length c407)] (by kernel_rfl) ?_
    refine OW.nil rfl ?_
    refine QW.next ?_
    refine CW.seq ?_
    refine CW.region ?_
    refine OW.pure 2 [(63, .slice a2 (p0).length c3), (64, .slice a386 (o302).length c387)] (by kernel_rfl) ?_
    obtain ⟨r416, hr417, hF⟩ := bind_some' hF
    refine OW.fn rfl rfl rfl rfl (by kernel_rfl) (trace_Only_ok _ (.slice a2 (p0).length c3) p0 (.slice a386 (o302).length c387) o302 r416 hr417 (hst.part [] rfl) (h0.give hst []) (hst.rd 1 rfl (fun _ => rfl) [] rfl (hst.len 1 rfl).1)) ?_
    rintro e w418 ⟨v420, rfl, hst419⟩
    refine ⟨_, rfl, ?_⟩
    have hst := hst.join (idx := []) (rest := [0, 1, 2]) rfl hst419
    obtain ⟨l421, a422, c423, rfl⟩ := hst.len 0 rfl
    refine OW.pure 1 [(14, .slice a422 (r416).length c423)] (by kernel_rfl) ?_
    refine OW.nil rfl ?_
    refine QW.next ?_
    refine CW.seq ?_
    refine CW.cutK (fun a w1 => Rep 83 [(4, .bool (((r17.2 == 0) && sEq t122 r17.1) && ((w64 (((r400).length : Int) + ((r416).length : Int))) == ((p0).length : Int))))] a ∧ St w (fp []) w1 []) ?_ ?_
    ·refine CW.region ?_
     refine OW.pure 3 [(68, .bool (r17.2 == 0))] (by kernel_rfl) ?_
     refine OW.split 68 rfl (fun hc424 => ?_) (fun hc424 => ?_)
     ·refine OW.pure 5 [(73, .bool (sEq t122 r17.1))] (by kernel_rfl) ?_
      refine OW.split 73 rfl (fun hc425 => ?_) (fun hc425 => ?_)
      ·refine OW.pure 10 [(4, .bool ((w64 (((r400).length : Int) + ((r416).length : Int))) == ((p0).length : Int)))] (by kernel_rfl) ?_
       refine OW.nil rfl ?_
       refine QW.say 4 (v := .bool (((r17.2 == 0) && sEq t122 r17.1) && ((w64 (((r400).length : Int) + ((r416).length : Int))) == ((p0).length : Int)))) rfl (by first | (rw [hc424, hc425]; done) | (rw [hc424, hc425]; rfl) | simp [hc424, hc425]) ?_
       exact QW.meet (fun a ha => ⟨ha.agrees (by kernel_rfl), hst.keep [] rfl⟩)
      ·refine OW.pure 10 [(4, .bool false)] (by kernel_rfl) ?_
       refine OW.nil rfl ?_
       refine QW.say 4 (v := .bool (((r17.2 == 0) && sEq t122 r17.1) && ((w64 (((r400).length : Int) + ((r416).length : Int))) == ((p0).length : Int)))) rfl (by first | (rw [hc424, hc425]; done) | (rw [hc424, hc425]; rfl) | simp [hc424, hc425]) ?_
       exact QW.meet (fun a ha => ⟨ha.agrees (by kernel_rfl), hst.keep [] rfl⟩)
     ·refine OW.pure 15 [(4, .bool false)] (by kernel_rfl) ?_
      refine OW.nil rfl ?_
      refine QW.say 4 (v := .bool (((r17.2 == 0) && sEq t122 r17.1) && ((w64 (((r400).length : Int) + ((r416).length : Int))) == ((p0).length : Int)))) rfl (by first | (rw [hc424]; done) | (rw [hc424]; rfl) | simp [hc424]) ?_
      exact QW.meet (fun a ha => ⟨ha.agrees (by kernel_rfl), hst.keep [] rfl⟩)
    ·rintro a w1 ⟨ha, hst⟩
     refine CW.go ?_ ha
     refine CW.ret ?_
     obtain rfl := Option.some.inj hF
     refine QW.ret1 rfl rfl ?_
     exact ⟨rfl, hst.keep [] rfl⟩

set_option maxRecDepth 10000 in
set_option maxHeartbeats 4000000 in
theorem trace_Of_ok (w : World) (v0 : Value) (p0 : List api_Entry) (v1 : Value) (p1 : List Int) (r : (List api_Entry)) (hF : trace_Of p0 p1 = some r)
    (hst : St w (fp []) w []) (h0 : Rd w (fp []) v0 enc_api_Entry 22 p0) (h1 : Rd w (fp []) v1 (encInt .i64) 1 p1) :
    Calls Tryd.prog 19 [v0, v1].toArray w (fun e w' => ∃ (x0 : Value), e = .returned (x0) ∧ St w (fp []) w' [rowI x0 46 enc_api_Entry 22 r]) := by
 refine CW.start (N := 8) Tryd.func19 rfl rfl rfl ?_
 obtain ⟨l1, a2, c3, rfl⟩ := h0.len
 obtain ⟨l4, a5, c6, rfl⟩ := h1.len
 refine CW.seq ?_
 refine CW.region ?_
 refine OW.box hst rfl rfl rfl rfl [.slice a5 (p1).length c6] rfl ?_
 intro b9 w10 hst
 refine OW.pure 1 [] (by kernel_rfl) ?_
 refine OW.nil rfl ?_
 refine QW.next ?_
 refine CW.seq ?_
 refine CW.region ?_
 refine OW.pure 2 [(5, .slice a2 (p0).length c3), (6, .func (.func 36) #[] #[.pointer (some ⟨b9, 0, none⟩)])] (by kernel_rfl) ?_
 obtain ⟨r19, hr20, hF⟩ := bind_some' hF
 refine OW.fn rfl rfl rfl rfl (by kernel_rfl) (trace_kept_36_ok _ (.slice a2 (p0).length c3) p0 b9 (.slice a5 (p1).length c6) p1 r19 hr20 (hst.part [] rfl) (h0.give hst []) (h1.give hst []) (hst.rdB 0 rfl [] rfl)) ?_
 rintro e w21 ⟨v23, rfl, hst22⟩
 refine ⟨_, rfl, ?_⟩
 have hst := hst.join (idx := []) (rest := [0]) rfl hst22
 obtain ⟨l24, a25, c26, rfl⟩ := hst.len 0 rfl
 refine OW.pure 1 [(4, .slice a25 (r19).length c26)] (by kernel_rfl) ?_
 refine OW.nil rfl ?_
 refine QW.next ?_
 refine CW.ret ?_
 obtain rfl := Option.some.inj hF
 refine QW.ret1 rfl rfl ?_
 exact ⟨(.slice a25 (r19).length c26), rfl, hst.keep [0] rfl⟩

set_option maxRecDepth 10000 in
set_option maxHeartbeats 4000000 in
theorem tappetlaw26_TraceOnly_ok (w : World) (fu : Nat) (v0 : Value) (p0 : List api_Entry) (v1 : Value) (p1 : List Int) (v2 : Value) (p2 : List Int) (r : Bool) (hF : tappetlaw26_TraceOnly fu p0 p1 p2 = some r)
    (hst : St w (fp []) w []) (h0 : Rd w (fp []) v0 enc_api_Entry 22 p0) (h1 : Rd w (fp []) v1 (encInt .i64) 1 p1) (h2 : Rd w (fp []) v2 (encInt .i64) 1 p2) (hT0 : Rd w (fp []) (.slice (some ⟨0, 0, none⟩) 18 18) enc_trace_form 2 tab_g0) (hTL : LibG Tryd.prog 4 1 2 3 w (fp [])) :
    Calls Tryd.prog 7 [v0, v1, v2].toArray w (fun e w' => e = .returned (.bool r) ∧ St w (fp []) w' []) := by
 refine CW.start (N := 172) Tryd.func7 rfl rfl rfl ?_
 obtain ⟨l1, a2, c3, rfl⟩ := h0.len
 obtain ⟨l4, a5, c6, rfl⟩ := h1.len
 obtain ⟨l7, a8, c9, rfl⟩ := h2.len
 refine CW.seq ?_
 refine CW.region ?_
 refine OW.pure 1 [] (by kernel_rfl) ?_
 refine OW.nil rfl ?_
 refine QW.next ?_
 refine CW.seq ?_
 refine CW.seq ?_
 refine CW.region ?_
 obtain ⟨r14, hr15, hF⟩ := bind_some' hF
 refine OW.fn rfl rfl rfl rfl (by kernel_rfl) (tappetlaw26_awake_ok _ fu r14 hr15 (hst.part [] rfl) (hT0.give hst []) (hTL.give hst [])) ?_
 rintro e w16 ⟨rfl, hst17⟩
 refine ⟨_, rfl, ?_⟩
 have hst := hst.join (idx := []) (rest := []) rfl hst17
 refine OW.pure 1 [(22, .bool (!r14))] (by kernel_rfl) ?_
 refine OW.nil rfl ?_
 refine QW.next ?_
 rcases Bool.eq_false_or_eq_true ((!r14)) with hc18 | hc18
 ·have hF := ite_t hF hc18
  refine CW.cond_t rfl hc18 ?_
  refine CW.seq ?_
  refine CW.region ?_
  refine OW.pure 1 [(6, .bool false)] (by kernel_rfl) ?_
  refine OW.nil rfl ?_
  refine QW.next ?_
  refine CW.ret ?_
  refine QW.then_ret ?_
  obtain rfl := Option.some.inj hF
  refine QW.ret1 rfl rfl ?_
  exact ⟨rfl, hst.keep [] rfl⟩
 ·have hF := ite_f hF hc18
  refine CW.cond_f rfl hc18 ?_
  refine CW.skip ?_
  refine QW.next ?_
  refine CW.seq ?_
  refine CW.region ?_
  refine OW.row (α := api_Entry) (e := 46) (enc := enc_api_Entry) (sz := 22) hst rfl rfl rfl [] rfl (fun _ => rfl) rfl rfl (fun _ => by kernel_rfl) ?_
  intro g28 w29 hst
  refine OW.pure 1 [(24, .slice a2 (p0).length c3)] (by kernel_rfl) ?_
  obtain ⟨u30, hr31, hF⟩ := bind_some' hF
  refine OW.app hst 0 rfl (fun _ => rfl) (fun _ => rfl) rfl rfl rfl rfl rfl rfl (by kernel_rfl) el46 (h0.on hst) (room_le hr31) ?_
  intro v32 w33 hst
  obtain ⟨l34, a35, c36, rfl⟩ := hst.len 0 rfl
  refine OW.pure 1 [(7, .slice a35 ((([] : List api_Entry) ++ p0)).length c36)] (by kernel_rfl) ?_
  refine OW.nil rfl ?_
  refine QW.next ?_
  refine CW.seq ?_
  refine CW.region ?_
  refine OW.pure 1 [(8, .slice none 0 0)] (by kernel_rfl) ?_
  refine OW.nil rfl ?_
  refine QW.next ?_
  refine CW.seq ?_
  refine CW.seq ?_
  refine CW.region ?_
  refine OW.pure 1 [(9, .int .i64 0)] (by kernel_rfl) ?_
  refine OW.nil rfl ?_
  refine QW.next ?_
  obtain ⟨o150, ho151, hF⟩ := bind_some' hF
  refine CW.cutK (fun a w1 => ∃ (v149 : Value), Rep 172 [(0, .slice a2 (p0).length c3), (2, .slice a8 (p2).length c9), (7, .slice a35 ((([] : List api_Entry) ++ p0)).length c36), (8, v149)] a ∧ St w (fp []) w1 [rowI (.slice a35 ((([] : List api_Entry) ++ p0)).length c36) 46 enc_api_Entry 22 (([] : List api_Entry) ++ p0), rowI v149 36 (encInt .i64) 1 o150]) ?_ ?_
  ·refine CW.block ?_
   have hst := hst.nilRow Int 36 (encInt .i64) 1
   refine CW.loop (fun n a w1 => ∃ (i228 : Nat) (s226 : (List Int)) (v227 : Value), i228 + n = (p1).length ∧ Rep 172 [(0, .slice a2 (p0).length c3), (1, .slice a5 (p1).length c6), (2, .slice a8 (p2).length c9), (7, .slice a35 ((([] : List api_Entry) ++ p0)).length c36), (8, v227), (9, .int .i64 (i228 : Int))] a ∧ St w (fp []) w1 [rowI (.slice a35 ((([] : List api_Entry) ++ p0)).length c36) 46 enc_api_Entry 22 (([] : List api_Entry) ++ p0), rowI v227 36 (encInt .i64) 1 s226] ∧ forN (tappetlaw26_TraceOnly_l1 p1) (fun (s226 : (List Int)) => s226) n i228 s226 = some o150) (p1).length (fun a ha => ⟨0, ([] : List Int), (.slice none 0 0), Nat.zero_add _, ha.agrees (by kernel_rfl), hst.keep [0, 1] rfl, ho151⟩) ?_
   rintro n224 a w1 ⟨i228, s226, v227, hi229, ha, hst, hl225⟩
   refine CW.go ?_ ha
   obtain ⟨l230, a231, c232, rfl⟩ := hst.len 1 rfl
   refine CW.seq ?_
   refine CW.seq ?_
   refine CW.region ?_
   refine OW.pure 4 [(29, .bool (decide ((i228 : Int) < ((p1).length : Int))))] (by kernel_rfl) ?_
   refine OW.nil rfl ?_
   refine QW.next ?_
   rcases Bool.eq_false_or_eq_true (decide ((i228 : Int) < ((p1).length : Int))) with hc233 | hc233
   ·rcases n224 with _ | n224
    ·exact (cnt0 hi229 hc233).elim
    refine CW.cond_t rfl hc233 ?_
    refine CW.skip ?_
    refine QW.next ?_
    refine CW.seq ?_
    refine CW.block ?_
    refine CW.region ?_
    refine OW.pure 3 [(32, .slice a231 (s226).length c232), (33, .slice a5 (p1).length c6), (34, .int .i64 (i228 : Int))] (by kernel_rfl) ?_
    obtain ⟨x249, hx250, hl225⟩ := bind_some' hl225
    obtain ⟨g252, o253, c254, hv251⟩ := h1.formv (fun _ => ⟨_, rfl⟩) hx250
    refine OW.idx 3 1 rfl rfl rfl rfl hv251 rfl (idx_some hx250).1 (idx_some hx250).2.1 (by kernel_rfl) (by kernel_rfl) ?_
    refine OW.ld rfl rfl rfl rfl (by kernel_rfl) (h1.cellv hst hx250 hv251 0 _ rfl) ?_
    refine OW.row (α := Int) (e := 36) (enc := encInt .i64) (sz := 1) hst rfl rfl rfl [x249] rfl (fun _ => rfl) rfl rfl (fun _ => by kernel_rfl) ?_
    intro g255 w256 hst
    obtain ⟨u257, hr258, hl225⟩ := bind_some' hl225
    refine OW.app hst 1 rfl (fun _ => rfl) (fun _ => rfl) rfl rfl rfl rfl rfl rfl (by kernel_rfl) el36 (hst.rd 2 rfl (fun _ => rfl) [] rfl (hst.len 2 rfl).1) (room_le hr258) ?_
    intro v259 w260 hst
    obtain ⟨l261, a262, c263, rfl⟩ := hst.len 1 rfl
    refine OW.pure 1 [(8, .slice a262 ((s226 ++ [x249])).length c263)] (by kernel_rfl) ?_
    refine OW.nil rfl ?_
    refine QW.block_normal ?_
    refine QW.next ?_
    refine CW.region ?_
    refine OW.pure 3 [(9, .int .i64 (w64 ((i228 : Int) + 1)))] (by kernel_rfl) ?_
    refine OW.nil rfl ?_
    refine QW.say 9 rfl (congrArg (Value.int .i64) (w64_cnt hc233 l4)) ?_
    exact QW.meet (fun a ha => ⟨n224, Nat.lt_succ_self _, i228 + 1, (s226 ++ [x249]), (.slice a262 ((s226 ++ [x249])).length c263), cnt_next hi229, ha.agrees (by kernel_rfl), hst.keep [0, 1] rfl, hl225⟩)
   ·rcases n224 with _ | n224
    ·refine CW.cond_f rfl hc233 ?_
     refine CW.exit ?_
     refine QW.then_exit ?_
     refine QW.then_exit ?_
     refine QW.block_here ?_
     obtain rfl := Option.some.inj hl225
     exact QW.meet (fun a ha => ⟨(.slice a231 (s226).length c232), ha.agrees (by kernel_rfl), hst.keep [0, 1] rfl⟩)
    ·exact (cnt1 hi229 hc233).elim
  ·rintro a w1 ⟨v149, ha, hst⟩
   refine CW.go ?_ ha
   obtain ⟨l266, a267, c268, rfl⟩ := hst.len 1 rfl
   refine CW.seq ?_
   refine CW.region ?_
   refine OW.pure 2 [(39, .slice a35 ((([] : List api_Entry) ++ p0)).length c36), (40, .slice a267 (o150).length c268)] (by kernel_rfl) ?_
   obtain ⟨r277, hr278, hF⟩ := bind_some' hF
   refine OW.fn rfl rfl rfl rfl (by kernel_rfl) (trace_Only_ok _ (.slice a35 ((([] : List api_Entry) ++ p0)).length c36) (([] : List api_Entry) ++ p0) (.slice a267 (o150).length c268) o150 r277 hr278 (hst.part [] rfl) (hst.rd 0 rfl (fun _ => rfl) [] rfl (hst.len 0 rfl).1) (hst.rd 1 rfl (fun _ => rfl) [] rfl (hst.len 1 rfl).1)) ?_
   rintro e w279 ⟨v281, rfl, hst280⟩
   refine ⟨_, rfl, ?_⟩
   have hst := hst.join (idx := []) (rest := [0, 1]) rfl hst280
   obtain ⟨l282, a283, c284, rfl⟩ := hst.len 0 rfl
   refine OW.pure 1 [(10, .slice a283 (r277).length c284)] (by kernel_rfl) ?_
   refine OW.nil rfl ?_
   refine QW.next ?_
   refine CW.seq ?_
   refine CW.region ?_
   refine OW.pure 1 [(42, .slice a35 ((([] : List api_Entry) ++ p0)).length c36)] (by kernel_rfl) ?_
   refine OW.row (α := Int) (e := 3) (enc := encInt .i64) (sz := 1) hst rfl rfl rfl [] rfl (fun _ => rfl) rfl rfl (fun _ => by kernel_rfl) ?_
   intro g302 w303 hst
   refine OW.pure 1 [(44, .slice a8 (p2).length c9)] (by kernel_rfl) ?_
   obtain ⟨u304, hr305, hF⟩ := bind_some' hF
   refine OW.app hst 3 rfl (fun _ => rfl) (fun _ => rfl) rfl rfl rfl rfl rfl rfl (by kernel_rfl) el3 (h2.on hst) (room_le hr305) ?_
   intro v306 w307 hst
   obtain ⟨l308, a309, c310, rfl⟩ := hst.len 3 rfl
   obtain ⟨r311, hr312, hF⟩ := bind_some' hF
   refine OW.fn rfl rfl rfl rfl (by kernel_rfl) (trace_Of_ok _ (.slice a35 ((([] : List api_Entry) ++ p0)).length c36) (([] : List api_Entry) ++ p0) (.slice a309 ((([] : List Int) ++ p2)).length c310) (([] : List Int) ++ p2) r311 hr312 (hst.part [] rfl) (hst.rd 1 rfl (fun _ => rfl) [] rfl (hst.len 1 rfl).1) (hst.rd 3 rfl (fun _ => rfl) [] rfl (hst.len 3 rfl).1)) ?_
   rintro e w313 ⟨v315, rfl, hst314⟩
   refine ⟨_, rfl, ?_⟩
   have hst := hst.join (idx := []) (rest := [0, 1, 2, 3]) rfl hst314
   obtain ⟨l316, a317, c318, rfl⟩ := hst.len 0 rfl
   refine OW.pure 1 [(11, .slice a317 (r311).length c318)] (by kernel_rfl) ?_
   refine OW.nil rfl ?_
   refine QW.next ?_
   refine CW.seq ?_
   refine CW.region ?_
   refine OW.pure 2 [(12, .int .i64 0), (13, .int .i64 0)] (by kernel_rfl) ?_
   refine OW.nil rfl ?_
   refine QW.next ?_
   refine CW.seq ?_
   refine CW.seq ?_
   refine CW.region ?_
   refine OW.pure 1 [(14, .int .i64 0)] (by kernel_rfl) ?_
   refine OW.nil rfl ?_
   refine QW.next ?_
   obtain ⟨o1525, ho1526, hF⟩ := bind_some' hF
   refine CW.cutK (fun a w1 => ∃ (t1527 : Int × Int), o1525 = .inl t1527 ∧ Rep 172 [(0, .slice a2 (p0).length c3), (7, .slice a35 ((([] : List api_Entry) ++ p0)).length c36), (10, .slice a283 (r277).length c284), (11, .slice a317 (r311).length c318), (12, .int .i64 t1527.1), (13, .int .i64 t1527.2)] a ∧ St w (fp []) w1 [rowI (.slice a35 ((([] : List api_Entry) ++ p0)).length c36) 46 enc_api_Entry 22 (([] : List api_Entry) ++ p0), rowI (.slice a283 (r277).length c284) 46 enc_api_Entry 22 r277, rowI (.slice a317 (r311).length c318) 46 enc_api_Entry 22 r311]) ?_ ?_
   ·refine CW.block ?_
    refine CW.loop (fun n a w1 => ∃ (i2332 : Nat) (s2331 : Int × Int), i2332 + n = (p0).length ∧ Rep 172 [(0, .slice a2 (p0).length c3), (2, .slice a8 (p2).length c9), (7, .slice a35 ((([] : List api_Entry) ++ p0)).length c36), (8, .slice a267 (o150).length c268), (10, .slice a283 (r277).length c284), (11, .slice a317 (r311).length c318), (12, .int .i64 s2331.1), (13, .int .i64 s2331.2), (14, .int .i64 (i2332 : Int))] a ∧ St w (fp []) w1 [rowI (.slice a35 ((([] : List api_Entry) ++ p0)).length c36) 46 enc_api_Entry 22 (([] : List api_Entry) ++ p0), rowI (.slice a267 (o150).length c268) 36 (encInt .i64) 1 o150, rowI (.slice a283 (r277).length c284) 46 enc_api_Entry 22 r277, rowI (.slice a317 (r311).length c318) 46 enc_api_Entry 22 r311] ∧ forN (tappetlaw26_TraceOnly_l2 p0 p2 o150 r277 r311) (fun (s2331 : Int × Int) => (.inl (s2331.1, s2331.2))) n i2332 s2331 = some o1525) (p0).length (fun a ha => ⟨0, (0, 0), Nat.zero_add _, ha.agrees (by kernel_rfl), hst.keep [2, 3, 1, 0] rfl, ho1526⟩) ?_
    rintro n2329 a w1 ⟨i2332, s2331, hi2333, ha, hst, hl2330⟩
    refine CW.go ?_ ha
    refine CW.seq ?_
    refine CW.seq ?_
    refine CW.region ?_
    refine OW.pure 4 [(50, .bool (decide ((i2332 : Int) < ((p0).length : Int))))] (by kernel_rfl) ?_
    refine OW.nil rfl ?_
    refine QW.next ?_
    rcases Bool.eq_false_or_eq_true (decide ((i2332 : Int) < ((p0).length : Int))) with hc2334 | hc2334
    ·rcases n2329 with _ | n2329
     ·exact (cnt0 hi2333 hc2334).elim
     refine CW.cond_t rfl hc2334 ?_
     refine CW.skip ?_
     refine QW.next ?_
     refine CW.seq ?_
     refine CW.block ?_
     refine CW.seq ?_
     refine CW.region ?_
     refine OW.pure 2 [(15, .bool false), (16, .bool false)] (by kernel_rfl) ?_
     refine OW.nil rfl ?_
     refine QW.next ?_
     refine CW.seq ?_
     refine CW.seq ?_
     refine CW.region ?_
     refine OW.pure 1 [(17, .int .i64 0)] (by kernel_rfl) ?_
     refine OW.nil rfl ?_
     refine QW.next ?_
     obtain ⟨o2406, ho2407, hl2330⟩ := bind_some' hl2330
     refine CW.cutK (fun a w1 => Rep 172 [(0, .slice a2 (p0).length c3), (2, .slice a8 (p2).length c9), (7, .slice a35 ((([] : List api_Entry) ++ p0)).length c36), (8, .slice a267 (o150).length c268), (10, .slice a283 (r277).length c284), (11, .slice a317 (r311).length c318), (12, .int .i64 s2331.1), (13, .int .i64 s2331.2), (14, .int .i64 (i2332 : Int)), (15, .bool o2406), (16, .bool false)] a ∧ St w (fp []) w1 [rowI (.slice a35 ((([] : List api_Entry) ++ p0)).length c36) 46 enc_api_Entry 22 (([] : List api_Entry) ++ p0), rowI (.slice a267 (o150).length c268) 36 (encInt .i64) 1 o150, rowI (.slice a283 (r277).length c284) 46 enc_api_Entry 22 r277, rowI (.slice a317 (r311).length c318) 46 enc_api_Entry 22 r311]) ?_ ?_
     ·refine CW.block ?_
      refine CW.loop (fun n a w1 => ∃ (i2459 : Nat) (s2458 : Bool), i2459 + n = (o150).length ∧ Rep 172 [(0, .slice a2 (p0).length c3), (2, .slice a8 (p2).length c9), (7, .slice a35 ((([] : List api_Entry) ++ p0)).length c36), (8, .slice a267 (o150).length c268), (10, .slice a283 (r277).length c284), (11, .slice a317 (r311).length c318), (12, .int .i64 s2331.1), (13, .int .i64 s2331.2), (14, .int .i64 (i2332 : Int)), (15, .bool s2458), (16, .bool false), (17, .int .i64 (i2459 : Int))] a ∧ St w (fp []) w1 [rowI (.slice a35 ((([] : List api_Entry) ++ p0)).length c36) 46 enc_api_Entry 22 (([] : List api_Entry) ++ p0), rowI (.slice a267 (o150).length c268) 36 (encInt .i64) 1 o150, rowI (.slice a283 (r277).length c284) 46 enc_api_Entry 22 r277, rowI (.slice a317 (r311).length c318) 46 enc_api_Entry 22 r311] ∧ forN (tappetlaw26_TraceOnly_l3 p0 o150 i2332) (fun (s2458 : Bool) => s2458) n i2459 s2458 = some o2406) (o150).length (fun a ha => ⟨0, false, Nat.zero_add _, ha.agrees (by kernel_rfl), hst.keep [0, 1, 2, 3] rfl, ho2407⟩) ?_
      rintro n2456 a w1 ⟨i2459, s2458, hi2460, ha, hst, hl2457⟩
      refine CW.go ?_ ha
      refine CW.seq ?_
      refine CW.seq ?_
      refine CW.region ?_
      refine OW.pure 4 [(56, .bool (decide ((i2459 : Int) < ((o150).length : Int))))] (by kernel_rfl) ?_
      refine OW.nil rfl ?_
      refine QW.next ?_
      rcases Bool.eq_false_or_eq_true (decide ((i2459 : Int) < ((o150).length : Int))) with hc2461 | hc2461
      ·rcases n2456 with _ | n2456
       ·exact (cnt0 hi2460 hc2461).elim
       refine CW.cond_t rfl hc2461 ?_
       refine CW.skip ?_
       refine QW.next ?_
       refine CW.seq ?_
       refine CW.block ?_
       refine CW.still (by kernel_rfl) (by kernel_rfl) ?_
       intro w2464 hch2465
       have hst := hst.same hch2465
       refine OS.pure 2 [(60, .bool s2458)] rfl (by kernel_rfl) ?_
       refine OS.split 60 rfl (fun hc2466 => ?_) (fun hc2466 => ?_)
       ·have hl2457 := ite_t hl2457 hc2466
        refine OS.pure 12 [(15, .bool true)] rfl (by kernel_rfl) ?_
        refine OS.fin rfl ?_
        refine QW.block_normal ?_
        refine QW.next ?_
        refine CW.region ?_
        refine OW.pure 3 [(17, .int .i64 (w64 ((i2459 : Int) + 1)))] (by kernel_rfl) ?_
        refine OW.nil rfl ?_
        refine QW.say 17 rfl (congrArg (Value.int .i64) (w64_cnt hc2461 l266)) ?_
        exact QW.meet (fun a ha => ⟨n2456, Nat.lt_succ_self _, i2459 + 1, true, cnt_next hi2460, ha.agrees (by kernel_rfl), hst.keep [0, 1, 2, 3] rfl, hl2457⟩)
       ·have hl2457 := ite_f hl2457 hc2466
        refine OS.pure 2 [(61, .slice a267 (o150).length c268), (62, .int .i64 (i2459 : Int))] rfl (by kernel_rfl) ?_
        obtain ⟨x2467, hx2468, hl2457⟩ := bind_some' hl2457
        obtain ⟨g2470, o2471, c2472, hv2469⟩ := hst.rowv 1 rfl hx2468
        refine OS.idx 36 1 rfl rfl rfl rfl rfl hv2469 rfl (idx_some hx2468).1 (idx_some hx2468).2.1 (by kernel_rfl) (by kernel_rfl) ?_
        refine OS.ld rfl rfl rfl rfl rfl (by kernel_rfl) (hst.rowc 1 rfl (fun _ => rfl) hx2468 hv2469 0 _ rfl) ?_
        refine OS.pure 2 [(65, .slice a2 (p0).length c3), (66, .int .i64 (i2332 : Int))] rfl (by kernel_rfl) ?_
        obtain ⟨x2473, hx2474, hl2457⟩ := bind_some' hl2457
        obtain ⟨g2476, o2477, c2478, hv2475⟩ := h0.formv (fun _ => ⟨_, rfl⟩) hx2474
        refine OS.idx 46 22 rfl rfl rfl rfl rfl hv2475 rfl (idx_some hx2474).1 (idx_some hx2474).2.1 (by kernel_rfl) (by kernel_rfl) ?_
        refine OS.pure 1 [(68, .pointer (some ⟨g2476, o2477 + Int.toNat (i2332 : Int) * 22, none⟩))] rfl (by kernel_rfl) ?_
        refine OS.ld rfl rfl rfl rfl rfl (by kernel_rfl) (h0.cellv hst hx2474 hv2475 0 _ rfl) ?_
        refine OS.pure 3 [(15, .bool (x2467 == x2473.What))] rfl (by kernel_rfl) ?_
        refine OS.fin rfl ?_
        refine QW.block_normal ?_
        refine QW.next ?_
        refine CW.region ?_
        refine OW.pure 3 [(17, .int .i64 (w64 ((i2459 : Int) + 1)))] (by kernel_rfl) ?_
        refine OW.nil rfl ?_
        refine QW.say 17 rfl (congrArg (Value.int .i64) (w64_cnt hc2461 l266)) ?_
        exact QW.meet (fun a ha => ⟨n2456, Nat.lt_succ_self _, i2459 + 1, (x2467 == x2473.What), cnt_next hi2460, ha.agrees (by kernel_rfl), hst.keep [0, 1, 2, 3] rfl, hl2457⟩)
      ·rcases n2456 with _ | n2456
       ·refine CW.cond_f rfl hc2461 ?_
        refine CW.exit ?_
        refine QW.then_exit ?_
        refine QW.then_exit ?_
        refine QW.block_here ?_
        obtain rfl := Option.some.inj hl2457
        exact QW.meet (fun a ha => ⟨ha.agrees (by kernel_rfl), hst.keep [0, 1, 2, 3] rfl⟩)
       ·exact (cnt1 hi2460 hc2461).elim
     ·rintro a w1 ⟨ha, hst⟩
      refine CW.go ?_ ha
      refine CW.seq ?_
      refine CW.seq ?_
      refine CW.region ?_
      refine OW.pure 1 [(18, .int .i64 0)] (by kernel_rfl) ?_
      refine OW.nil rfl ?_
      refine QW.next ?_
      obtain ⟨o2550, ho2551, hl2330⟩ := bind_some' hl2330
      refine CW.cutK (fun a w1 => Rep 172 [(0, .slice a2 (p0).length c3), (2, .slice a8 (p2).length c9), (7, .slice a35 ((([] : List api_Entry) ++ p0)).length c36), (8, .slice a267 (o150).length c268), (10, .slice a283 (r277).length c284), (11, .slice a317 (r311).length c318), (12, .int .i64 s2331.1), (13, .int .i64 s2331.2), (14, .int .i64 (i2332 : Int)), (15, .bool o2406), (16, .bool o2550)] a ∧ St w (fp []) w1 [rowI (.slice a35 ((([] : List api_Entry) ++ p0)).length c36) 46 enc_api_Entry 22 (([] : List api_Entry) ++ p0), rowI (.slice a267 (o150).length c268) 36 (encInt .i64) 1 o150, rowI (.slice a283 (r277).length c284) 46 enc_api_Entry 22 r277, rowI (.slice a317 (r311).length c318) 46 enc_api_Entry 22 r311]) ?_ ?_
      ·refine CW.block ?_
       refine CW.loop (fun n a w1 => ∃ (i2603 : Nat) (s2602 : Bool), i2603 + n = (p2).length ∧ Rep 172 [(0, .slice a2 (p0).length c3), (2, .slice a8 (p2).length c9), (7, .slice a35 ((([] : List api_Entry) ++ p0)).length c36), (8, .slice a267 (o150).length c268), (10, .slice a283 (r277).length c284), (11, .slice a317 (r311).length c318), (12, .int .i64 s2331.1), (13, .int .i64 s2331.2), (14, .int .i64 (i2332 : Int)), (15, .bool o2406), (16, .bool s2602), (18, .int .i64 (i2603 : Int))] a ∧ St w (fp []) w1 [rowI (.slice a35 ((([] : List api_Entry) ++ p0)).length c36) 46 enc_api_Entry 22 (([] : List api_Entry) ++ p0), rowI (.slice a267 (o150).length c268) 36 (encInt .i64) 1 o150, rowI (.slice a283 (r277).length c284) 46 enc_api_Entry 22 r277, rowI (.slice a317 (r311).length c318) 46 enc_api_Entry 22 r311] ∧ forN (tappetlaw26_TraceOnly_l4 p0 p2 i2332) (fun (s2602 : Bool) => s2602) n i2603 s2602 = some o2550) (p2).length (fun a ha => ⟨0, false, Nat.zero_add _, ha.agrees (by kernel_rfl), hst.keep [0, 1, 2, 3] rfl, ho2551⟩) ?_
       rintro n2600 a w1 ⟨i2603, s2602, hi2604, ha, hst, hl2601⟩
       refine CW.go ?_ ha
       refine CW.seq ?_
       refine CW.seq ?_
       refine CW.region ?_
       refine OW.pure 4 [(75, .bool (decide ((i2603 : Int) < ((p2).length : Int))))] (by kernel_rfl) ?_
       refine OW.nil rfl ?_
       refine QW.next ?_
       rcases Bool.eq_false_or_eq_true (decide ((i2603 : Int) < ((p2).length : Int))) with hc2605 | hc2605
       ·rcases n2600 with _ | n2600
        ·exact (cnt0 hi2604 hc2605).elim
        refine CW.cond_t rfl hc2605 ?_
        refine CW.skip ?_
        refine QW.next ?_
        refine CW.seq ?_
        refine CW.block ?_
        refine CW.still (by kernel_rfl) (by kernel_rfl) ?_
        intro w2608 hch2609
        have hst := hst.same hch2609
        refine OS.pure 2 [(79, .bool s2602)] rfl (by kernel_rfl) ?_
        refine OS.split 79 rfl (fun hc2610 => ?_) (fun hc2610 => ?_)
        ·have hl2601 := ite_t hl2601 hc2610
         refine OS.pure 12 [(16, .bool true)] rfl (by kernel_rfl) ?_
         refine OS.fin rfl ?_
         refine QW.block_normal ?_
         refine QW.next ?_
         refine CW.region ?_
         refine OW.pure 3 [(18, .int .i64 (w64 ((i2603 : Int) + 1)))] (by kernel_rfl) ?_
         refine OW.nil rfl ?_
         refine QW.say 18 rfl (congrArg (Value.int .i64) (w64_cnt hc2605 l7)) ?_
         exact QW.meet (fun a ha => ⟨n2600, Nat.lt_succ_self _, i2603 + 1, true, cnt_next hi2604, ha.agrees (by kernel_rfl), hst.keep [0, 1, 2, 3] rfl, hl2601⟩)
        ·have hl2601 := ite_f hl2601 hc2610
         refine OS.pure 2 [(80, .slice a8 (p2).length c9), (81, .int .i64 (i2603 : Int))] rfl (by kernel_rfl) ?_
         obtain ⟨x2611, hx2612, hl2601⟩ := bind_some' hl2601
         obtain ⟨g2614, o2615, c2616, hv2613⟩ := h2.formv (fun _ => ⟨_, rfl⟩) hx2612
         refine OS.idx 3 1 rfl rfl rfl rfl rfl hv2613 rfl (idx_some hx2612).1 (idx_some hx2612).2.1 (by kernel_rfl) (by kernel_rfl) ?_
         refine OS.ld rfl rfl rfl rfl rfl (by kernel_rfl) (h2.cellv hst hx2612 hv2613 0 _ rfl) ?_
         refine OS.pure 2 [(84, .slice a2 (p0).length c3), (85, .int .i64 (i2332 : Int))] rfl (by kernel_rfl) ?_
         obtain ⟨x2617, hx2618, hl2601⟩ := bind_some' hl2601
         obtain ⟨g2620, o2621, c2622, hv2619⟩ := h0.formv (fun _ => ⟨_, rfl⟩) hx2618
         refine OS.idx 46 22 rfl rfl rfl rfl rfl hv2619 rfl (idx_some hx2618).1 (idx_some hx2618).2.1 (by kernel_rfl) (by kernel_rfl) ?_
         refine OS.pure 1 [(87, .pointer (some ⟨g2620, o2621 + Int.toNat (i2332 : Int) * 22 + 1, none⟩))] rfl (by kernel_rfl) ?_
         refine OS.ld rfl rfl rfl rfl rfl (by kernel_rfl) (h0.cellv hst hx2618 hv2619 1 _ rfl) ?_
         refine OS.pure 3 [(16, .bool (x2611 == x2617.Task))] rfl (by kernel_rfl) ?_
         refine OS.fin rfl ?_
         refine QW.block_normal ?_
         refine QW.next ?_
         refine CW.region ?_
         refine OW.pure 3 [(18, .int .i64 (w64 ((i2603 : Int) + 1)))] (by kernel_rfl) ?_
         refine OW.nil rfl ?_
         refine QW.say 18 rfl (congrArg (Value.int .i64) (w64_cnt hc2605 l7)) ?_
         exact QW.meet (fun a ha => ⟨n2600, Nat.lt_succ_self _, i2603 + 1, (x2611 == x2617.Task), cnt_next hi2604, ha.agrees (by kernel_rfl), hst.keep [0, 1, 2, 3] rfl, hl2601⟩)
       ·rcases n2600 with _ | n2600
        ·refine CW.cond_f rfl hc2605 ?_
         refine CW.exit ?_
         refine QW.then_exit ?_
         refine QW.then_exit ?_
         refine QW.block_here ?_
         obtain rfl := Option.some.inj hl2601
         exact QW.meet (fun a ha => ⟨ha.agrees (by kernel_rfl), hst.keep [0, 1, 2, 3] rfl⟩)
        ·exact (cnt1 hi2604 hc2605).elim
      ·rintro a w1 ⟨ha, hst⟩
       refine CW.go ?_ ha
       refine CW.seq ?_
       refine CW.seq ?_
       refine CW.region ?_
       refine OW.pure 1 [(91, .bool o2406)] (by kernel_rfl) ?_
       refine OW.nil rfl ?_
       refine QW.next ?_
       obtain ⟨o2659, ho2660, hl2330⟩ := bind_some' hl2330
       refine CW.cutK (fun a w1 => ∃ (t2661 : Int), o2659 = .inl t2661 ∧ Rep 172 [(0, .slice a2 (p0).length c3), (2, .slice a8 (p2).length c9), (7, .slice a35 ((([] : List api_Entry) ++ p0)).length c36), (8, .slice a267 (o150).length c268), (10, .slice a283 (r277).length c284), (11, .slice a317 (r311).length c318), (12, .int .i64 t2661), (13, .int .i64 s2331.2), (14, .int .i64 (i2332 : Int)), (16, .bool o2550)] a ∧ St w (fp []) w1 [rowI (.slice a35 ((([] : List api_Entry) ++ p0)).length c36) 46 enc_api_Entry 22 (([] : List api_Entry) ++ p0), rowI (.slice a267 (o150).length c268) 36 (encInt .i64) 1 o150, rowI (.slice a283 (r277).length c284) 46 enc_api_Entry 22 r277, rowI (.slice a317 (r311).length c318) 46 enc_api_Entry 22 r311]) ?_ ?_
       ·rcases Bool.eq_false_or_eq_true (o2406) with hc2662 | hc2662
        ·have ho2660 := ite_t ho2660 hc2662
         refine CW.cond_t rfl hc2662 ?_
         refine CW.seq ?_
         refine CW.seq ?_
         obtain ⟨o2680, ho2681, ho2660⟩ := bind_some' ho2660
         refine CW.cutK (fun a w1 => Rep 172 [(0, .slice a2 (p0).length c3), (2, .slice a8 (p2).length c9), (7, .slice a35 ((([] : List api_Entry) ++ p0)).length c36), (8, .slice a267 (o150).length c268), (10, .slice a283 (r277).length c284), (11, .slice a317 (r311).length c318), (12, .int .i64 s2331.1), (13, .int .i64 s2331.2), (14, .int .i64 (i2332 : Int)), (16, .bool o2550), (106, .bool o2680)] a ∧ St w (fp []) w1 [rowI (.slice a35 ((([] : List api_Entry) ++ p0)).length c36) 46 enc_api_Entry 22 (([] : List api_Entry) ++ p0), rowI (.slice a267 (o150).length c268) 36 (encInt .i64) 1 o150, rowI (.slice a283 (r277).length c284) 46 enc_api_Entry 22 r277, rowI (.slice a317 (r311).length c318) 46 enc_api_Entry 22 r311]) ?_ ?_
         ·refine CW.still (by kernel_rfl) (by kernel_rfl) ?_
          intro w2682 hch2683
          have hst := hst.same hch2683
          refine OS.pure 5 [(96, .bool (decide (s2331.1 ≥ ((r277).length : Int))))] rfl (by kernel_rfl) ?_
          refine OS.split 96 rfl (fun hc2684 => ?_) (fun hc2684 => ?_)
          ·have ho2681 := ite_t ho2681 hc2684
           refine OS.pure 10 [(106, .bool true)] rfl (by kernel_rfl) ?_
           refine OS.fin rfl ?_
           obtain rfl := Option.some.inj ho2681
           exact QW.meet (fun a ha => ⟨ha.agrees (by kernel_rfl), hst.keep [0, 1, 2, 3] rfl⟩)
          ·have ho2681 := ite_f ho2681 hc2684
           refine OS.pure 2 [(97, .slice a283 (r277).length c284), (98, .int .i64 s2331.1)] rfl (by kernel_rfl) ?_
           obtain ⟨x2685, hx2686, ho2681⟩ := bind_some' ho2681
           obtain ⟨g2688, o2689, c2690, hv2687⟩ := hst.rowv 2 rfl hx2686
           refine OS.idx 46 22 rfl rfl rfl rfl rfl hv2687 rfl (idx_some hx2686).1 (idx_some hx2686).2.1 (by kernel_rfl) (by kernel_rfl) ?_
           refine OS.ldN (cs := enc_api_Entry x2685) rfl rfl rfl rfl rfl (by kernel_rfl) (by kernel_rfl) (hst.rowc 2 rfl (fun _ => rfl) hx2686 hv2687) ?_
           refine OS.pure 2 [(101, .slice a2 (p0).length c3), (102, .int .i64 (i2332 : Int))] rfl (by kernel_rfl) ?_
           obtain ⟨x2691, hx2692, ho2681⟩ := bind_some' ho2681
           obtain ⟨g2694, o2695, c2696, hv2693⟩ := h0.formv (fun _ => ⟨_, rfl⟩) hx2692
           refine OS.idx 46 22 rfl rfl rfl rfl rfl hv2693 rfl (idx_some hx2692).1 (idx_some hx2692).2.1 (by kernel_rfl) (by kernel_rfl) ?_
           refine OS.ldN (cs := enc_api_Entry x2691) rfl rfl rfl rfl rfl (by kernel_rfl) (by kernel_rfl) (h0.cellv hst hx2692 hv2693) ?_
           refine OS.op (v := .bool (!((x2685.What == x2691.What) && ((x2685.Task == x2691.Task) && ((x2685.From == x2691.From) && ((x2685.Cmd == x2691.Cmd) && ((x2685.Tag == x2691.Tag) && ((x2685.Event == x2691.Event) && ((x2685.Hook == x2691.Hook) && ((x2685.Prog == x2691.Prog) && ((x2685.Version == x2691.Version) && ((x2685.Pc == x2691.Pc) && (((x2685.Item.Map == x2691.Item.Map) && ((x2685.Item.Op == x2691.Item.Op) && ((x2685.Item.Key == x2691.Item.Key) && ((x2685.Item.Val == x2691.Item.Val) && true)))) && (((x2685.Res.E == x2691.Res.E) && ((x2685.Res.Found == x2691.Res.Found) && ((x2685.Res.Val == x2691.Res.Val) && ((x2685.Res.Out == x2691.Res.Out) && ((x2685.Res.OutKey == x2691.Res.OutKey) && ((x2685.Res.OutVal == x2691.Res.OutVal) && true)))))) && ((x2685.Val == x2691.Val) && ((x2685.E == x2691.E) && true)))))))))))))))) rfl rfl rfl rfl rfl (fun a ha => sneq_run rfl rfl rfl (by kernel_rfl) (by kernel_rfl) a _ ha) ?_
           refine OS.pure 1 [(106, .bool (!((x2685.What == x2691.What) && ((x2685.Task == x2691.Task) && ((x2685.From == x2691.From) && ((x2685.Cmd == x2691.Cmd) && ((x2685.Tag == x2691.Tag) && ((x2685.Event == x2691.Event) && ((x2685.Hook == x2691.Hook) && ((x2685.Prog == x2691.Prog) && ((x2685.Version == x2691.Version) && ((x2685.Pc == x2691.Pc) && (((x2685.Item.Map == x2691.Item.Map) && ((x2685.Item.Op == x2691.Item.Op) && ((x2685.Item.Key == x2691.Item.Key) && ((x2685.Item.Val == x2691.Item.Val) && true)))) && (((x2685.Res.E == x2691.Res.E) && ((x2685.Res.Found == x2691.Res.Found) && ((x2685.Res.Val == x2691.Res.Val) && ((x2685.Res.Out == x2691.Res.Out) && ((x2685.Res.OutKey == x2691.Res.OutKey) && ((x2685.Res.OutVal == x2691.Res.OutVal) && true)))))) && ((x2685.Val == x2691.Val) && ((x2685.E == x2691.E) && true))))))))))))))))] rfl (by kernel_rfl) ?_
           refine OS.fin rfl ?_
           obtain rfl := Option.some.inj ho2681
           exact QW.meet (fun a ha => ⟨ha.agrees (by kernel_rfl), hst.keep [0, 1, 2, 3] rfl⟩)
         ·rintro a w1 ⟨ha, hst⟩
          refine CW.go ?_ ha
          rcases Bool.eq_false_or_eq_true (o2680) with hc2697 | hc2697
          ·have ho2660 := ite_t ho2660 hc2697
           refine CW.cond_t rfl hc2697 ?_
           refine CW.seq ?_
           refine CW.region ?_
           refine OW.pure 1 [(6, .bool false)] (by kernel_rfl) ?_
           refine OW.nil rfl ?_
           refine QW.next ?_
           refine CW.ret ?_
           refine QW.then_ret ?_
           refine QW.then_ret ?_
           refine QW.block_ret ?_
           refine QW.then_ret ?_
           refine QW.then_ret ?_
           refine QW.block_ret ?_
           refine QW.then_ret ?_
           obtain rfl := Option.some.inj ho2660
           obtain rfl := Option.some.inj hl2330
           obtain rfl := Option.some.inj hF
           refine QW.ret1 rfl rfl ?_
           exact ⟨rfl, hst.keep [] rfl⟩
          ·have ho2660 := ite_f ho2660 hc2697
           refine CW.cond_f rfl hc2697 ?_
           refine CW.skip ?_
           refine QW.next ?_
           refine CW.region ?_
           refine OW.pure 3 [(12, .int .i64 (w64 (s2331.1 + 1)))] (by kernel_rfl) ?_
           refine OW.nil rfl ?_
           obtain rfl := Option.some.inj ho2660
           exact QW.meet (fun a ha => ⟨(w64 (s2331.1 + 1)), rfl, ha.agrees (by kernel_rfl), hst.keep [0, 1, 2, 3] rfl⟩)
        ·have ho2660 := ite_f ho2660 hc2662
         refine CW.cond_f rfl hc2662 ?_
         refine CW.skip ?_
         obtain rfl := Option.some.inj ho2660
         exact QW.meet (fun a ha => ⟨s2331.1, rfl, ha.agrees (by kernel_rfl), hst.keep [0, 1, 2, 3] rfl⟩)
       ·rintro a w1 ⟨t2661, rfl, ha, hst⟩
        refine CW.go ?_ ha
        refine CW.seq ?_
        refine CW.region ?_
        refine OW.pure 1 [(109, .bool o2550)] (by kernel_rfl) ?_
        refine OW.nil rfl ?_
        refine QW.next ?_
        rcases Bool.eq_false_or_eq_true (o2550) with hc2698 | hc2698
        ·have hl2330 := ite_t hl2330 hc2698
         refine CW.cond_t rfl hc2698 ?_
         refine CW.seq ?_
         refine CW.seq ?_
         obtain ⟨o2716, ho2717, hl2330⟩ := bind_some' hl2330
         refine CW.cutK (fun a w1 => Rep 172 [(0, .slice a2 (p0).length c3), (2, .slice a8 (p2).length c9), (7, .slice a35 ((([] : List api_Entry) ++ p0)).length c36), (8, .slice a267 (o150).length c268), (10, .slice a283 (r277).length c284), (11, .slice a317 (r311).length c318), (12, .int .i64 t2661), (13, .int .i64 s2331.2), (14, .int .i64 (i2332 : Int)), (124, .bool o2716)] a ∧ St w (fp []) w1 [rowI (.slice a35 ((([] : List api_Entry) ++ p0)).length c36) 46 enc_api_Entry 22 (([] : List api_Entry) ++ p0), rowI (.slice a267 (o150).length c268) 36 (encInt .i64) 1 o150, rowI (.slice a283 (r277).length c284) 46 enc_api_Entry 22 r277, rowI (.slice a317 (r311).length c318) 46 enc_api_Entry 22 r311]) ?_ ?_
         ·refine CW.still (by kernel_rfl) (by kernel_rfl) ?_
          intro w2718 hch2719
          have hst := hst.same hch2719
          refine OS.pure 5 [(114, .bool (decide (s2331.2 ≥ ((r311).length : Int))))] rfl (by kernel_rfl) ?_
          refine OS.split 114 rfl (fun hc2720 => ?_) (fun hc2720 => ?_)
          ·have ho2717 := ite_t ho2717 hc2720
           refine OS.pure 10 [(124, .bool true)] rfl (by kernel_rfl) ?_
           refine OS.fin rfl ?_
           obtain rfl := Option.some.inj ho2717
           exact QW.meet (fun a ha => ⟨ha.agrees (by kernel_rfl), hst.keep [0, 1, 2, 3] rfl⟩)
          ·have ho2717 := ite_f ho2717 hc2720
           refine OS.pure 2 [(115, .slice a317 (r311).length c318), (116, .int .i64 s2331.2)] rfl (by kernel_rfl) ?_
           obtain ⟨x2721, hx2722, ho2717⟩ := bind_some' ho2717
           obtain ⟨g2724, o2725, c2726, hv2723⟩ := hst.rowv 3 rfl hx2722
           refine OS.idx 46 22 rfl rfl rfl rfl rfl hv2723 rfl (idx_some hx2722).1 (idx_some hx2722).2.1 (by kernel_rfl) (by kernel_rfl) ?_
           refine OS.ldN (cs := enc_api_Entry x2721) rfl rfl rfl rfl rfl (by kernel_rfl) (by kernel_rfl) (hst.rowc 3 rfl (fun _ => rfl) hx2722 hv2723) ?_
           refine OS.pure 2 [(119, .slice a2 (p0).length c3), (120, .int .i64 (i2332 : Int))] rfl (by kernel_rfl) ?_
           obtain ⟨x2727, hx2728, ho2717⟩ := bind_some' ho2717
           obtain ⟨g2730, o2731, c2732, hv2729⟩ := h0.formv (fun _ => ⟨_, rfl⟩) hx2728
           refine OS.idx 46 22 rfl rfl rfl rfl rfl hv2729 rfl (idx_some hx2728).1 (idx_some hx2728).2.1 (by kernel_rfl) (by kernel_rfl) ?_
           refine OS.ldN (cs := enc_api_Entry x2727) rfl rfl rfl rfl rfl (by kernel_rfl) (by kernel_rfl) (h0.cellv hst hx2728 hv2729) ?_
           refine OS.op (v := .bool (!((x2721.What == x2727.What) && ((x2721.Task == x2727.Task) && ((x2721.From == x2727.From) && ((x2721.Cmd == x2727.Cmd) && ((x2721.Tag == x2727.Tag) && ((x2721.Event == x2727.Event) && ((x2721.Hook == x2727.Hook) && ((x2721.Prog == x2727.Prog) && ((x2721.Version == x2727.Version) && ((x2721.Pc == x2727.Pc) && (((x2721.Item.Map == x2727.Item.Map) && ((x2721.Item.Op == x2727.Item.Op) && ((x2721.Item.Key == x2727.Item.Key) && ((x2721.Item.Val == x2727.Item.Val) && true)))) && (((x2721.Res.E == x2727.Res.E) && ((x2721.Res.Found == x2727.Res.Found) && ((x2721.Res.Val == x2727.Res.Val) && ((x2721.Res.Out == x2727.Res.Out) && ((x2721.Res.OutKey == x2727.Res.OutKey) && ((x2721.Res.OutVal == x2727.Res.OutVal) && true)))))) && ((x2721.Val == x2727.Val) && ((x2721.E == x2727.E) && true)))))))))))))))) rfl rfl rfl rfl rfl (fun a ha => sneq_run rfl rfl rfl (by kernel_rfl) (by kernel_rfl) a _ ha) ?_
           refine OS.pure 1 [(124, .bool (!((x2721.What == x2727.What) && ((x2721.Task == x2727.Task) && ((x2721.From == x2727.From) && ((x2721.Cmd == x2727.Cmd) && ((x2721.Tag == x2727.Tag) && ((x2721.Event == x2727.Event) && ((x2721.Hook == x2727.Hook) && ((x2721.Prog == x2727.Prog) && ((x2721.Version == x2727.Version) && ((x2721.Pc == x2727.Pc) && (((x2721.Item.Map == x2727.Item.Map) && ((x2721.Item.Op == x2727.Item.Op) && ((x2721.Item.Key == x2727.Item.Key) && ((x2721.Item.Val == x2727.Item.Val) && true)))) && (((x2721.Res.E == x2727.Res.E) && ((x2721.Res.Found == x2727.Res.Found) && ((x2721.Res.Val == x2727.Res.Val) && ((x2721.Res.Out == x2727.Res.Out) && ((x2721.Res.OutKey == x2727.Res.OutKey) && ((x2721.Res.OutVal == x2727.Res.OutVal) && true)))))) && ((x2721.Val == x2727.Val) && ((x2721.E == x2727.E) && true))))))))))))))))] rfl (by kernel_rfl) ?_
           refine OS.fin rfl ?_
           obtain rfl := Option.some.inj ho2717
           exact QW.meet (fun a ha => ⟨ha.agrees (by kernel_rfl), hst.keep [0, 1, 2, 3] rfl⟩)
         ·rintro a w1 ⟨ha, hst⟩
          refine CW.go ?_ ha
          rcases Bool.eq_false_or_eq_true (o2716) with hc2733 | hc2733
          ·have hl2330 := ite_t hl2330 hc2733
           refine CW.cond_t rfl hc2733 ?_
           refine CW.seq ?_
           refine CW.region ?_
           refine OW.pure 1 [(6, .bool false)] (by kernel_rfl) ?_
           refine OW.nil rfl ?_
           refine QW.next ?_
           refine CW.ret ?_
           refine QW.then_ret ?_
           refine QW.block_ret ?_
           refine QW.then_ret ?_
           refine QW.then_ret ?_
           refine QW.block_ret ?_
           refine QW.then_ret ?_
           obtain rfl := Option.some.inj hl2330
           obtain rfl := Option.some.inj hF
           refine QW.ret1 rfl rfl ?_
           exact ⟨rfl, hst.keep [] rfl⟩
          ·have hl2330 := ite_f hl2330 hc2733
           refine CW.cond_f rfl hc2733 ?_
           refine CW.skip ?_
           refine QW.next ?_
           refine CW.region ?_
           refine OW.pure 3 [(13, .int .i64 (w64 (s2331.2 + 1)))] (by kernel_rfl) ?_
           refine OW.nil rfl ?_
           refine QW.block_normal ?_
           refine QW.next ?_
           refine CW.region ?_
           refine OW.pure 3 [(14, .int .i64 (w64 ((i2332 : Int) + 1)))] (by kernel_rfl) ?_
           refine OW.nil rfl ?_
           refine QW.say 14 rfl (congrArg (Value.int .i64) (w64_cnt hc2334 l1)) ?_
           exact QW.meet (fun a ha => ⟨n2329, Nat.lt_succ_self _, i2332 + 1, (t2661, w64 (s2331.2 + 1)), cnt_next hi2333, ha.agrees (by kernel_rfl), hst.keep [0, 1, 2, 3] rfl, hl2330⟩)
        ·have hl2330 := ite_f hl2330 hc2698
         refine CW.cond_f rfl hc2698 ?_
         refine CW.skip ?_
         refine QW.block_normal ?_
         refine QW.next ?_
         refine CW.region ?_
         refine OW.pure 3 [(14, .int .i64 (w64 ((i2332 : Int) + 1)))] (by kernel_rfl) ?_
         refine OW.nil rfl ?_
         refine QW.say 14 rfl (congrArg (Value.int .i64) (w64_cnt hc2334 l1)) ?_
         exact QW.meet (fun a ha => ⟨n2329, Nat.lt_succ_self _, i2332 + 1, (t2661, s2331.2), cnt_next hi2333, ha.agrees (by kernel_rfl), hst.keep [0, 1, 2, 3] rfl, hl2330⟩)
    ·rcases n2329 with _ | n2329
     ·refine CW.cond_f rfl hc2334 ?_
      refine CW.exit ?_
      refine QW.then_exit ?_
      refine QW.then_exit ?_
      refine QW.block_here ?_
      obtain rfl := Option.some.inj hl2330
      exact QW.meet (fun a ha => ⟨(s2331.1, s2331.2), rfl, ha.agrees (by kernel_rfl), hst.keep [0, 2, 3] rfl⟩)
     ·exact (cnt1 hi2333 hc2334).elim
   ·rintro a w1 ⟨t1527, rfl, ha, hst⟩
    refine CW.go ?_ ha
    refine CW.seq ?_
    refine CW.seq ?_
    obtain ⟨o2753, ho2754, hF⟩ := bind_some' hF
    refine CW.cutK (fun a w1 => Rep 172 [(0, .slice a2 (p0).length c3), (7, .slice a35 ((([] : List api_Entry) ++ p0)).length c36), (10, .slice a283 (r277).length c284), (11, .slice a317 (r311).length c318), (148, .bool o2753)] a ∧ St w (fp []) w1 [rowI (.slice a35 ((([] : List api_Entry) ++ p0)).length c36) 46 enc_api_Entry 22 (([] : List api_Entry) ++ p0), rowI (.slice a283 (r277).length c284) 46 enc_api_Entry 22 r277, rowI (.slice a317 (r311).length c318) 46 enc_api_Entry 22 r311]) ?_ ?_
    ·refine CW.region ?_
     refine OW.pure 5 [(131, .bool (t1527.1 != ((r277).length : Int)))] (by kernel_rfl) ?_
     refine OW.split 131 rfl (fun hc2755 => ?_) (fun hc2755 => ?_)
     ·have ho2754 := ite_t ho2754 hc2755
      refine OW.pure 17 [(148, .bool true)] (by kernel_rfl) ?_
      refine OW.nil rfl ?_
      obtain rfl := Option.some.inj ho2754
      exact QW.meet (fun a ha => ⟨ha.agrees (by kernel_rfl), hst.keep [0, 1, 2] rfl⟩)
     ·have ho2754 := ite_f ho2754 hc2755
      refine OW.pure 6 [(137, .bool (t1527.2 != ((r311).length : Int)))] (by kernel_rfl) ?_
      refine OW.split 137 rfl (fun hc2756 => ?_) (fun hc2756 => ?_)
      ·have ho2754 := ite_t ho2754 hc2756
       refine OW.pure 11 [(148, .bool true)] (by kernel_rfl) ?_
       refine OW.nil rfl ?_
       obtain rfl := Option.some.inj ho2754
       exact QW.meet (fun a ha => ⟨ha.agrees (by kernel_rfl), hst.keep [0, 1, 2] rfl⟩)
      ·have ho2754 := ite_f ho2754 hc2756
       refine OW.pure 1 [(138, .slice a35 ((([] : List api_Entry) ++ p0)).length c36)] (by kernel_rfl) ?_
       obtain ⟨r2757, hr2758, ho2754⟩ := bind_some' ho2754
       refine OW.fn rfl rfl rfl rfl (by kernel_rfl) (trace_Only_ok _ (.slice a35 ((([] : List api_Entry) ++ p0)).length c36) (([] : List api_Entry) ++ p0) (.slice none 0 0) ([] : List Int) r2757 hr2758 (hst.part [] rfl) (hst.rd 0 rfl (fun _ => rfl) [] rfl (hst.len 0 rfl).1) (Rd.nil _ _ _ _ _)) ?_
       rintro e w2759 ⟨v2761, rfl, hst2760⟩
       refine ⟨_, rfl, ?_⟩
       have hst := hst.join (idx := []) (rest := [0, 1, 2]) rfl hst2760
       obtain ⟨l2762, a2763, c2764, rfl⟩ := hst.len 0 rfl
       refine OW.pure 4 [(143, .bool (((r2757).length : Int) != 0))] (by kernel_rfl) ?_
       refine OW.split 143 rfl (fun hc2765 => ?_) (fun hc2765 => ?_)
       ·have ho2754 := ite_t ho2754 hc2765
        refine OW.pure 5 [(148, .bool true)] (by kernel_rfl) ?_
        refine OW.nil rfl ?_
        obtain rfl := Option.some.inj ho2754
        exact QW.meet (fun a ha => ⟨ha.agrees (by kernel_rfl), hst.keep [1, 2, 3] rfl⟩)
       ·have ho2754 := ite_f ho2754 hc2765
        refine OW.pure 1 [(144, .slice a35 ((([] : List api_Entry) ++ p0)).length c36)] (by kernel_rfl) ?_
        obtain ⟨r2766, hr2767, ho2754⟩ := bind_some' ho2754
        refine OW.fn rfl rfl rfl rfl (by kernel_rfl) (trace_Of_ok _ (.slice a35 ((([] : List api_Entry) ++ p0)).length c36) (([] : List api_Entry) ++ p0) (.slice none 0 0) ([] : List Int) r2766 hr2767 (hst.part [] rfl) (hst.rd 1 rfl (fun _ => rfl) [] rfl (hst.len 1 rfl).1) (Rd.nil _ _ _ _ _)) ?_
        rintro e w2768 ⟨v2770, rfl, hst2769⟩
        refine ⟨_, rfl, ?_⟩
        have hst := hst.join (idx := []) (rest := [0, 1, 2, 3]) rfl hst2769
        obtain ⟨l2771, a2772, c2773, rfl⟩ := hst.len 0 rfl
        refine OW.pure 3 [(148, .bool (((r2766).length : Int) != 0))] (by kernel_rfl) ?_
        refine OW.nil rfl ?_
        obtain rfl := Option.some.inj ho2754
        exact QW.meet (fun a ha => ⟨ha.agrees (by kernel_rfl), hst.keep [2, 3, 4] rfl⟩)
    ·rintro a w1 ⟨ha, hst⟩
     refine CW.go ?_ ha
     rcases Bool.eq_false_or_eq_true (o2753) with hc2774 | hc2774
     ·have hF := ite_t hF hc2774
      refine CW.cond_t rfl hc2774 ?_
      refine CW.seq ?_
      refine CW.region ?_
      refine OW.pure 1 [(6, .bool false)] (by kernel_rfl) ?_
      refine OW.nil rfl ?_
      refine QW.next ?_
      refine CW.ret ?_
      refine QW.then_ret ?_
      obtain rfl := Option.some.inj hF
      refine QW.ret1 rfl rfl ?_
      exact ⟨rfl, hst.keep [] rfl⟩
     ·have hF := ite_f hF hc2774
      refine CW.cond_f rfl hc2774 ?_
      refine CW.skip ?_
      refine QW.next ?_
      refine CW.seq ?_
      refine CW.seq ?_
      refine CW.region ?_
      refine OW.pure 1 [(19, .int .i64 0)] (by kernel_rfl) ?_
      refine OW.nil rfl ?_
      refine QW.next ?_
      obtain ⟨o2838, ho2839, hF⟩ := bind_some' hF
      refine CW.cutK (fun a w1 => Rep 172 [(0, .slice a2 (p0).length c3), (7, .slice a35 ((([] : List api_Entry) ++ p0)).length c36), (11, .slice a317 (r311).length c318)] a ∧ St w (fp []) w1 [rowI (.slice a35 ((([] : List api_Entry) ++ p0)).length c36) 46 enc_api_Entry 22 (([] : List api_Entry) ++ p0), rowI (.slice a317 (r311).length c318) 46 enc_api_Entry 22 r311]) ?_ ?_
      ·refine CW.block ?_
       refine CW.loop (fun n a w1 => ∃ (s2881 : (List api_Entry) × Int) (v2882 : Value), Rep 172 [(0, .slice a2 (p0).length c3), (7, .slice a35 ((([] : List api_Entry) ++ p0)).length c36), (10, v2882), (11, .slice a317 (r311).length c318), (19, .int .i64 s2881.2)] a ∧ St w (fp []) w1 [rowI (.slice a35 ((([] : List api_Entry) ++ p0)).length c36) 46 enc_api_Entry 22 (([] : List api_Entry) ++ p0), rowI v2882 46 enc_api_Entry 22 s2881.1, rowI (.slice a317 (r311).length c318) 46 enc_api_Entry 22 r311] ∧ loop tappetlaw26_TraceOnly_l5 n s2881 = some o2838) fu (fun a ha => ⟨(r277, 0), (.slice a283 (r277).length c284), ha.agrees (by kernel_rfl), hst.keep [0, 1, 2] rfl, ho2839⟩) ?_
       rintro n2879 a w1 ⟨s2881, v2882, ha, hst, hl2880⟩
       rcases n2879 with _ | n2879
       ·exact (loop_zero hl2880).elim
       refine CW.go ?_ ha
       obtain ⟨l2883, a2884, c2885, rfl⟩ := hst.len 1 rfl
       refine CW.seq ?_
       refine CW.seq ?_
       refine CW.region ?_
       refine OW.pure 4 [(152, .bool (decide (s2881.2 < ((s2881.1).length : Int))))] (by kernel_rfl) ?_
       refine OW.nil rfl ?_
       refine QW.next ?_
       rcases Bool.eq_false_or_eq_true (decide (s2881.2 < ((s2881.1).length : Int))) with hc2886 | hc2886
       ·have hl2880 := ite_t hl2880 hc2886
        refine CW.cond_t rfl hc2886 ?_
        refine CW.skip ?_
        refine QW.next ?_
        refine CW.seq ?_
        refine CW.block ?_
        refine CW.region ?_
        refine OW.pure 3 [(155, .slice a2884 (s2881.1).length c2885), (156, .int .i64 s2881.2), (157, .agg [.int .i64 (-1), .int .i64 0, .int .i64 0, .int .i64 0, .int .i64 0, .int .i64 0, .int .i64 0, .int .i64 0, .int .i64 0, .int .i64 0, .int .i64 0, .int .i64 0, .int .u64 0, .int .u64 0, .int .i64 0, .bool false, .int .u64 0, .bool false, .int .u64 0, .int .u64 0, .int .u64 0, .int .i64 0].toArray)] (by kernel_rfl) ?_
        obtain ⟨x2894, hx2895, hl2880⟩ := bind_some' hl2880
        obtain ⟨g2897, o2898, c2899, hv2896⟩ := hst.rowv 1 rfl hx2895
        refine OW.idx 46 22 rfl rfl rfl rfl hv2896 rfl (idx_some hx2895).1 (idx_some hx2895).2.1 (by kernel_rfl) (by kernel_rfl) ?_
        refine OW.stR hst 1 rfl hv2896 (fun _ => rfl) rfl rfl hx2895 0 rfl rfl rfl (by kernel_rfl) rfl rfl (api_Entry.mk (-1) 0 0 0 0 0 0 0 0 0 (api_Item.mk 0 0 0 0) (api_Res.mk 0 false 0 false 0 0) 0 0) rfl ?_
        intro w2900 hst
        refine OW.nil rfl ?_
        refine QW.block_normal ?_
        refine QW.next ?_
        refine CW.region ?_
        refine OW.pure 3 [(19, .int .i64 (w64 (s2881.2 + 1)))] (by kernel_rfl) ?_
        refine OW.nil rfl ?_
        exact QW.meet (fun a ha => ⟨n2879, Nat.lt_succ_self _, ((s2881.1.set (Int.toNat s2881.2) (api_Entry.mk (-1) 0 0 0 0 0 0 0 0 0 (api_Item.mk 0 0 0 0) (api_Res.mk 0 false 0 false 0 0) 0 0)), w64 (s2881.2 + 1)), (.slice a2884 (s2881.1).length c2885), ha.agrees (by kernel_rfl), hst.keep [0, 1, 2] rfl, hl2880⟩)
       ·have hl2880 := ite_f hl2880 hc2886
        refine CW.cond_f rfl hc2886 ?_
        refine CW.exit ?_
        refine QW.then_exit ?_
        refine QW.then_exit ?_
        refine QW.block_here ?_
        obtain rfl := Option.some.inj hl2880
        exact QW.meet (fun a ha => ⟨ha.agrees (by kernel_rfl), hst.keep [0, 2] rfl⟩)
      ·rintro a w1 ⟨ha, hst⟩
       refine CW.go ?_ ha
       refine CW.seq ?_
       refine CW.seq ?_
       refine CW.region ?_
       refine OW.pure 1 [(20, .int .i64 0)] (by kernel_rfl) ?_
       refine OW.nil rfl ?_
       refine QW.next ?_
       obtain ⟨o2966, ho2967, hF⟩ := bind_some' hF
       refine CW.cutK (fun a w1 => Rep 172 [(0, .slice a2 (p0).length c3), (7, .slice a35 ((([] : List api_Entry) ++ p0)).length c36)] a ∧ St w (fp []) w1 [rowI (.slice a35 ((([] : List api_Entry) ++ p0)).length c36) 46 enc_api_Entry 22 (([] : List api_Entry) ++ p0)]) ?_ ?_
       ·refine CW.block ?_
        refine CW.loop (fun n a w1 => ∃ (s3009 : (List api_Entry) × Int) (v3010 : Value), Rep 172 [(0, .slice a2 (p0).length c3), (7, .slice a35 ((([] : List api_Entry) ++ p0)).length c36), (11, v3010), (20, .int .i64 s3009.2)] a ∧ St w (fp []) w1 [rowI (.slice a35 ((([] : List api_Entry) ++ p0)).length c36) 46 enc_api_Entry 22 (([] : List api_Entry) ++ p0), rowI v3010 46 enc_api_Entry 22 s3009.1] ∧ loop tappetlaw26_TraceOnly_l6 n s3009 = some o2966) fu (fun a ha => ⟨(r311, 0), (.slice a317 (r311).length c318), ha.agrees (by kernel_rfl), hst.keep [0, 1] rfl, ho2967⟩) ?_
        rintro n3007 a w1 ⟨s3009, v3010, ha, hst, hl3008⟩
        rcases n3007 with _ | n3007
        ·exact (loop_zero hl3008).elim
        refine CW.go ?_ ha
        obtain ⟨l3011, a3012, c3013, rfl⟩ := hst.len 1 rfl
        refine CW.seq ?_
        refine CW.seq ?_
        refine CW.region ?_
        refine OW.pure 4 [(162, .bool (decide (s3009.2 < ((s3009.1).length : Int))))] (by kernel_rfl) ?_
        refine OW.nil rfl ?_
        refine QW.next ?_
        rcases Bool.eq_false_or_eq_true (decide (s3009.2 < ((s3009.1).length : Int))) with hc3014 | hc3014
        ·have hl3008 := ite_t hl3008 hc3014
         refine CW.cond_t rfl hc3014 ?_
         refine CW.skip ?_
         refine QW.next ?_
         refine CW.seq ?_
         refine CW.block ?_
         refine CW.region ?_
         refine OW.pure 3 [(165, .slice a3012 (s3009.1).length c3013), (166, .int .i64 s3009.2), (167, .agg [.int .i64 (-2), .int .i64 0, .int .i64 0, .int .i64 0, .int .i64 0, .int .i64 0, .int .i64 0, .int .i64 0, .int .i64 0, .int .i64 0, .int .i64 0, .int .i64 0, .int .u64 0, .int .u64 0, .int .i64 0, .bool false, .int .u64 0, .bool false, .int .u64 0, .int .u64 0, .int .u64 0, .int .i64 0].toArray)] (by kernel_rfl) ?_
         obtain ⟨x3022, hx3023, hl3008⟩ := bind_some' hl3008
         obtain ⟨g3025, o3026, c3027, hv3024⟩ := hst.rowv 1 rfl hx3023
         refine OW.idx 46 22 rfl rfl rfl rfl hv3024 rfl (idx_some hx3023).1 (idx_some hx3023).2.1 (by kernel_rfl) (by kernel_rfl) ?_
         refine OW.stR hst 1 rfl hv3024 (fun _ => rfl) rfl rfl hx3023 0 rfl rfl rfl (by kernel_rfl) rfl rfl (api_Entry.mk (-2) 0 0 0 0 0 0 0 0 0 (api_Item.mk 0 0 0 0) (api_Res.mk 0 false 0 false 0 0) 0 0) rfl ?_
         intro w3028 hst
         refine OW.nil rfl ?_
         refine QW.block_normal ?_
         refine QW.next ?_
         refine CW.region ?_
         refine OW.pure 3 [(20, .int .i64 (w64 (s3009.2 + 1)))] (by kernel_rfl) ?_
         refine OW.nil rfl ?_
         exact QW.meet (fun a ha => ⟨n3007, Nat.lt_succ_self _, ((s3009.1.set (Int.toNat s3009.2) (api_Entry.mk (-2) 0 0 0 0 0 0 0 0 0 (api_Item.mk 0 0 0 0) (api_Res.mk 0 false 0 false 0 0) 0 0)), w64 (s3009.2 + 1)), (.slice a3012 (s3009.1).length c3013), ha.agrees (by kernel_rfl), hst.keep [0, 1] rfl, hl3008⟩)
        ·have hl3008 := ite_f hl3008 hc3014
         refine CW.cond_f rfl hc3014 ?_
         refine CW.exit ?_
         refine QW.then_exit ?_
         refine QW.then_exit ?_
         refine QW.block_here ?_
         obtain rfl := Option.some.inj hl3008
         exact QW.meet (fun a ha => ⟨ha.agrees (by kernel_rfl), hst.keep [0] rfl⟩)
       ·rintro a w1 ⟨ha, hst⟩
        refine CW.go ?_ ha
        refine CW.seq ?_
        refine CW.region ?_
        refine OW.pure 2 [(169, .slice a35 ((([] : List api_Entry) ++ p0)).length c36), (170, .slice a2 (p0).length c3)] (by kernel_rfl) ?_
        obtain ⟨r3035, hr3036, hF⟩ := bind_some' hF
        refine OW.fn rfl rfl rfl rfl (by kernel_rfl) (tappetlaw26_logs_ok _ (.slice a35 ((([] : List api_Entry) ++ p0)).length c36) (([] : List api_Entry) ++ p0) (.slice a2 (p0).length c3) p0 r3035 hr3036 (hst.part [] rfl) (hst.rd 0 rfl (fun _ => rfl) [] rfl (hst.len 0 rfl).1) (h0.give hst [])) ?_
        rintro e w3037 ⟨rfl, hst3038⟩
        refine ⟨_, rfl, ?_⟩
        have hst := hst.join (idx := []) (rest := [0]) rfl hst3038
        refine OW.pure 1 [(6, .bool r3035)] (by kernel_rfl) ?_
        refine OW.nil rfl ?_
        refine QW.next ?_
        refine CW.ret ?_
        obtain rfl := Option.some.inj hF
        refine QW.ret1 rfl rfl ?_
        exact ⟨rfl, hst.keep [] rfl⟩


end Go.Proofs.YtalllncanpcmfaaDoor

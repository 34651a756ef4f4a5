/- Texts W1p8 of this proof. -/
import Derived.Test.YtbmknhpfkpmigaaGreatDoorW1p7
set_option linter.unusedVariables false
set_option linter.unusedSimpArgs false
set_option maxRecDepth 10000
set_option maxHeartbeats 4000000
namespace Go.Proofs.YtbmknhpfkpmigaaGreatDoor
open Go.Sx
set_option maxRecDepth 10000 in
set_option maxHeartbeats 4000000 in
theorem zeV (w : World) (fu : Nat)  (r : Bool) (hF : xS fu = some r)
    (hst : St w (fp []) w []) (hT0 : Rd w (fp []) (.slice (some ⟨0, 0, none⟩) 7 7) zM 5 zaq) (hT1 : Rd w (fp []) (.slice (some ⟨1, 0, none⟩) 23 23) zJ 2 zaf) :
    Calls Tryz.prog 6 [].toArray w (fun e w' => e = .returned (.bool r) /\ St w (fp []) w' []) := by
 refine CW.start (N := 68) Tryz.func6 rfl rfl rfl ?_
 refine CW.seq ?_
 refine CW.region ?_
 refine OW.pure 1 [] (by kernel_rfl) ?_
 refine OW.nil rfl ?_
 refine QW.next ?_
 refine CW.seq ?_
 refine CW.region ?_
 obtain ⟨r8, hr9, hF⟩ := zn hF
 refine OW.fn rfl rfl rfl rfl (by kernel_rfl) (zdR _ r8 hr9 (hst.part [] rfl)) ?_
 rintro e w10 ⟨v12, S13, rfl, hst11⟩
 refine ⟨_, rfl, ?_⟩
 have hst := hst.join (idx := []) (rest := []) rfl hst11
 obtain ⟨b14, rfl⟩ := hst.fptr 0 rfl
 refine OW.pure 1 [(1, .pointer (some ⟨b14, 0, none⟩))] (by kernel_rfl) ?_
 refine OW.nil rfl ?_
 refine QW.next ?_
 refine CW.seq ?_
 refine CW.seq ?_
 obtain ⟨o32, ho33, hF⟩ := zn hF
 refine CW.cutK (fun a w1 => ∃ (S31 : List Nat), Rep 68 [(1, .pointer (some ⟨b14, 0, none⟩)), (20, .bool o32.2)] a /\ St w (fp []) w1 [itI qF [.pointer (some ⟨b14, 0, none⟩)] S31 o32.1]) ?_ ?_
 ·refine CW.region ?_
  refine OW.pure 6 [(9, .bool false), (10, .pointer (some ⟨b14, 0, none⟩)), (12, .agg [.int .i64 4, .int .u64 5, .int .u64 0].toArray)] (by kernel_rfl) ?_
  obtain ⟨r34, hr35, ho33⟩ := zn ho33
  refine OW.fn rfl rfl rfl rfl (by kernel_rfl) (zez _ (.pointer (some ⟨b14, 0, none⟩)) S13 r8 1 (jg.mk 4 (qw.mk 5 0)) r34 hr35 (hst.part [0] rfl)) ?_
  rintro e w36 ⟨S38, rfl, hst37⟩
  refine ⟨_, rfl, ?_⟩
  have hst := hst.join (idx := [0]) (rest := []) rfl hst37
  refine OW.pure 3 [(16, .bool (r34.1 != 0))] (by kernel_rfl) ?_
  refine OW.split 16 rfl (fun hc39 => ?_) (fun hc39 => ?_)
  ·have ho33 := zaS ho33 hc39
   refine OW.pure 4 [(20, .bool true)] (by kernel_rfl) ?_
   refine OW.nil rfl ?_
   obtain rfl := Option.some.inj ho33
   exact QW.meet (fun a ha => ⟨S38, ha.agrees (by kernel_rfl), hst.keep [0] rfl⟩)
  ·have ho33 := zaT ho33 hc39
   refine OW.pure 1 [(17, .pointer (some ⟨b14, 0, none⟩))] (by kernel_rfl) ?_
   obtain ⟨r40, hr41, ho33⟩ := zn ho33
   refine OW.fn rfl rfl rfl rfl (by kernel_rfl) (zb1 _ (.pointer (some ⟨b14, 0, none⟩)) S38 r34.2 r40 hr41 (hst.part [0] rfl)) ?_
   rintro e w42 ⟨S44, rfl, hst43⟩
   refine ⟨_, rfl, ?_⟩
   have hst := hst.join (idx := [0]) (rest := []) rfl hst43
   refine OW.pure 2 [(20, .bool (r40 != 1))] (by kernel_rfl) ?_
   refine OW.nil rfl ?_
   obtain rfl := Option.some.inj ho33
   exact QW.meet (fun a ha => ⟨S44, ha.agrees (by kernel_rfl), hst.keep [0] rfl⟩)
 ·rintro a w1 ⟨S31, ha, hst⟩
  refine CW.go ?_ ha
  rcases zft (o32.2) with hc45 | hc45
  ·have hF := zaS hF hc45
   refine CW.cond_t rfl hc45 ?_
   refine CW.seq ?_
   refine CW.region ?_
   refine OW.pure 1 [(0, .bool false)] (by kernel_rfl) ?_
   refine OW.nil rfl ?_
   refine QW.next ?_
   refine CW.ret ?_
   refine QW.then_ret ?_
   obtain rfl := Option.some.inj hF
   refine QW.ret1 rfl rfl ?_
   exact ⟨rfl, hst.keep [] rfl⟩
  ·have hF := zaT hF hc45
   refine CW.cond_f rfl hc45 ?_
   refine CW.skip ?_
   refine QW.next ?_
   refine CW.seq ?_
   refine CW.seq ?_
   refine CW.region ?_
   refine OW.pure 3 [(21, .pointer (some ⟨b14, 0, none⟩)), (22, .agg [.int .i64 13, .int .i64 0, .int .i64 0, .int .i64 0, .int .i64 0].toArray), (23, .agg [.int .i64 22, .int .i64 0, .int .i64 0, .int .i64 0, .int .i64 0].toArray)] (by kernel_rfl) ?_
   refine OW.row (α := zc) (e := 65) (enc := zo) (sz := 5) hst rfl rfl rfl [(zc.mk 13 0 0 0 0), (zc.mk 22 0 0 0 0)] rfl (fun _ => rfl) rfl rfl (fun _ => by kernel_rfl) ?_
   intro g53 w54 hst
   refine OW.pure 1 [(25, .agg [.slice none 0 0, .slice (some ⟨g53, 0, none⟩) 2 2].toArray)] (by kernel_rfl) ?_
   obtain ⟨r55, hr56, hF⟩ := zn hF
   refine OW.fn rfl rfl rfl rfl (by kernel_rfl) (zd5 _ fu (.pointer (some ⟨b14, 0, none⟩)) S31 o32.1 3 7 (.slice none 0 0) (.slice (some ⟨g53, 0, none⟩) 2 2) (zj.mk ([] : List Int) ([(zc.mk 13 0 0 0 0), (zc.mk 22 0 0 0 0)])) r55 hr56 (hst.part [0] rfl) (Rd.nil _ _ _ _ _) (hst.rd 1 rfl (fun _ => rfl) [0] rfl (hst.len 1 rfl).1) (hT0.give hst [0]) (hT1.give hst [0])) ?_
   rintro e w57 ⟨S59, rfl, hst58⟩
   refine ⟨_, rfl, ?_⟩
   have hst := hst.join (idx := [0]) (rest := [1]) rfl hst58
   refine OW.pure 1 [(27, .bool (r55.1 != 0))] (by kernel_rfl) ?_
   refine OW.nil rfl ?_
   refine QW.next ?_
   rcases zft ((r55.1 != 0)) with hc60 | hc60
   ·have hF := zaS hF hc60
    refine CW.cond_t rfl hc60 ?_
    refine CW.seq ?_
    refine CW.region ?_
    refine OW.pure 1 [(0, .bool false)] (by kernel_rfl) ?_
    refine OW.nil rfl ?_
    refine QW.next ?_
    refine CW.ret ?_
    refine QW.then_ret ?_
    obtain rfl := Option.some.inj hF
    refine QW.ret1 rfl rfl ?_
    exact ⟨rfl, hst.keep [] rfl⟩
   ·have hF := zaT hF hc60
    refine CW.cond_f rfl hc60 ?_
    refine CW.skip ?_
    refine QW.next ?_
    refine CW.seq ?_
    refine CW.region ?_
    refine OW.pure 1 [(28, .pointer (some ⟨b14, 0, none⟩))] (by kernel_rfl) ?_
    obtain ⟨r66, hr67, hF⟩ := zn hF
    refine OW.fn rfl rfl rfl rfl (by kernel_rfl) (zaH _ fu (.pointer (some ⟨b14, 0, none⟩)) S59 r55.2 r66 hr67 (hst.part [0] rfl) (hT0.give hst [0])) ?_
    rintro e w68 ⟨S70, rfl, hst69⟩
    refine ⟨_, rfl, ?_⟩
    have hst := hst.join (idx := [0]) (rest := [1]) rfl hst69
    refine OW.nil rfl ?_
    refine QW.next ?_
    refine CW.seq ?_
    refine CW.region ?_
    refine OW.pure 1 [(31, .pointer (some ⟨b14, 0, none⟩))] (by kernel_rfl) ?_
    obtain ⟨r79, hr80, hF⟩ := zn hF
    refine OW.fn rfl rfl rfl rfl (by kernel_rfl) (zaH _ fu (.pointer (some ⟨b14, 0, none⟩)) S70 r66.2.2 r79 hr80 (hst.part [0] rfl) (hT0.give hst [0])) ?_
    rintro e w81 ⟨S83, rfl, hst82⟩
    refine ⟨_, rfl, ?_⟩
    have hst := hst.join (idx := [0]) (rest := [1]) rfl hst82
    refine OW.pure 3 [(33, .agg [.int .i64 r79.1.Ki, .int .i64 r79.1.Pc, .int .i64 r79.1.It.Map, .int .i64 r79.1.It.Op, .int .u64 r79.1.It.Key, .int .u64 r79.1.It.Val, .int .u64 r79.1.Val].toArray), (34, .bool r79.2.1)] (by kernel_rfl) ?_
    refine OW.alloc hst rfl rfl rfl [.int .i64 0, .int .i64 0, .int .i64 0, .int .i64 0, .int .u64 0, .int .u64 0, .int .u64 0] (by kernel_rfl) ?_
    intro b84 w85 hst
    refine OW.stB hst 2 rfl rfl rfl rfl rfl (by kernel_rfl) rfl rfl [.int .i64 r79.1.Ki, .int .i64 r79.1.Pc, .int .i64 r79.1.It.Map, .int .i64 r79.1.It.Op, .int .u64 r79.1.It.Key, .int .u64 r79.1.It.Val, .int .u64 r79.1.Val] rfl ?_
    intro w86 hst
    refine OW.pure 1 [(3, .bool r79.2.1)] (by kernel_rfl) ?_
    refine OW.nil rfl ?_
    refine QW.next ?_
    refine CW.seq ?_
    obtain ⟨v87, S88, v89, S90, v91, S92, hst⟩ := hst.openD3 0 rfl rfl rfl rfl
    obtain ⟨b93, rfl⟩ := hst.fptr 3 rfl
    obtain ⟨b94, rfl⟩ := hst.fptr 4 rfl
    have hst : St _ _ _ [jD b14 84 [.pointer (some ⟨b93, 0, none⟩), .pointer (some ⟨b94, 0, none⟩), .int .i64 r79.2.2.mode_, .int .i64 r79.2.2.job.hook, .int .i64 r79.2.2.job.event.N, .int .u64 r79.2.2.job.event.Ev.A, .int .u64 r79.2.2.job.event.Ev.B, .int .i64 r79.2.2.job.version, .int .i64 r79.2.2.job.prog, .int .u64 r79.2.2.job.calls, v91], _, _, _, _, _] := hst
    refine CW.region ?_
    refine OW.pure 3 [(38, .pointer (some ⟨b14, 1, none⟩))] (by kernel_rfl) ?_
    refine OW.ld rfl rfl rfl rfl (by kernel_rfl) (hst.blk 0 rfl rfl) ?_
    obtain ⟨r103, hr104, hF⟩ := zn hF
    refine OW.fn rfl rfl rfl rfl (by kernel_rfl) (zf7 _ (.pointer (some ⟨b94, 0, none⟩)) S90 r79.2.2.Stats 1 r103 hr104 (hst.part [4] rfl)) ?_
    rintro e w105 ⟨S107, rfl, hst106⟩
    refine ⟨_, rfl, ?_⟩
    have hst := hst.join (idx := [4]) (rest := [0, 1, 2, 3, 5]) rfl hst106
    refine OW.pure 3 [(41, .agg [.int .u64 r103.1.Runs, .int .u64 r103.1.Missed, .int .u64 r103.1.Steps, .int .u64 r103.1.Calls, .int .u64 r103.1.Sum].toArray), (42, .int .i64 r103.2)] (by kernel_rfl) ?_
    refine OW.alloc hst rfl rfl rfl [.int .u64 0, .int .u64 0, .int .u64 0, .int .u64 0, .int .u64 0] (by kernel_rfl) ?_
    intro b108 w109 hst
    refine OW.stB hst 6 rfl rfl rfl rfl rfl (by kernel_rfl) rfl rfl [.int .u64 r103.1.Runs, .int .u64 r103.1.Missed, .int .u64 r103.1.Steps, .int .u64 r103.1.Calls, .int .u64 r103.1.Sum] rfl ?_
    intro w110 hst
    refine OW.pure 1 [(5, .int .i64 r103.2)] (by kernel_rfl) ?_
    refine OW.nil rfl ?_
    refine QW.next ?_
    refine CW.seq ?_
    obtain ⟨o122, ho123, hF⟩ := zn hF
    refine CW.cutK (fun a w1 => Rep 68 [(0, .bool o122)] a /\ St w (fp []) w1 []) ?_ ?_
    ·refine CW.region ?_
     refine OW.pure 2 [(44, .bool r79.2.1)] (by kernel_rfl) ?_
     refine OW.split 44 rfl (fun hc124 => ?_) (fun hc124 => ?_)
     ·have ho123 := zaS ho123 hc124
      refine OW.pure 1 [(45, .pointer (some ⟨b84, 6, none⟩))] (by kernel_rfl) ?_
      refine OW.ld rfl rfl rfl rfl (by kernel_rfl) (hst.blk 3 rfl rfl) ?_
      refine OW.pure 3 [(49, .bool (r79.1.Val == 5))] (by kernel_rfl) ?_
      refine OW.split 49 rfl (fun hc125 => ?_) (fun hc125 => ?_)
      ·have ho123 := zaS ho123 hc125
       refine OW.pure 1 [(50, .pointer (some ⟨b14, 0, none⟩))] (by kernel_rfl) ?_
       obtain ⟨S126, hst⟩ := hst.shutD3 zbm rfl 1 4 0 5 [2, 3, 6] rfl rfl rfl rfl rfl r79.2.2 rfl rfl
       obtain ⟨r127, hr128, ho123⟩ := zn ho123
       refine OW.fn rfl rfl rfl rfl (by kernel_rfl) (zb1 _ (.pointer (some ⟨b14, 0, none⟩)) S126 r79.2.2 r127 hr128 (hst.part [3] rfl)) ?_
       rintro e w129 ⟨S131, rfl, hst130⟩
       refine ⟨_, rfl, ?_⟩
       have hst := hst.join (idx := [3]) (rest := [0, 1, 2]) rfl hst130
       refine OW.pure 3 [(54, .bool (r127 == 0))] (by kernel_rfl) ?_
       refine OW.split 54 rfl (fun hc132 => ?_) (fun hc132 => ?_)
       ·have ho123 := zaS ho123 hc132
        refine OW.pure 4 [(58, .bool (r103.2 == 0))] (by kernel_rfl) ?_
        refine OW.split 58 rfl (fun hc133 => ?_) (fun hc133 => ?_)
        ·have ho123 := zaS ho123 hc133
         refine OW.pure 1 [(59, .pointer (some ⟨b108, 0, none⟩))] (by kernel_rfl) ?_
         refine OW.ld rfl rfl rfl rfl (by kernel_rfl) (hst.blk 3 rfl rfl) ?_
         refine OW.pure 3 [(63, .bool (r103.1.Runs == 1))] (by kernel_rfl) ?_
         refine OW.split 63 rfl (fun hc134 => ?_) (fun hc134 => ?_)
         ·have ho123 := zaS ho123 hc134
          refine OW.pure 1 [(64, .pointer (some ⟨b108, 4, none⟩))] (by kernel_rfl) ?_
          refine OW.ld rfl rfl rfl rfl (by kernel_rfl) (hst.blk 3 rfl rfl) ?_
          refine OW.pure 3 [(0, .bool (r103.1.Sum == 5))] (by kernel_rfl) ?_
          refine OW.nil rfl ?_
          obtain rfl := Option.some.inj ho123
          exact QW.meet (fun a ha => ⟨ha.agrees (by kernel_rfl), hst.keep [] rfl⟩)
         ·have ho123 := zaT ho123 hc134
          refine OW.pure 5 [(0, .bool false)] (by kernel_rfl) ?_
          refine OW.nil rfl ?_
          obtain rfl := Option.some.inj ho123
          exact QW.meet (fun a ha => ⟨ha.agrees (by kernel_rfl), hst.keep [] rfl⟩)
        ·have ho123 := zaT ho123 hc133
         refine OW.pure 10 [(0, .bool false)] (by kernel_rfl) ?_
         refine OW.nil rfl ?_
         obtain rfl := Option.some.inj ho123
         exact QW.meet (fun a ha => ⟨ha.agrees (by kernel_rfl), hst.keep [] rfl⟩)
       ·have ho123 := zaT ho123 hc132
        refine OW.pure 14 [(0, .bool false)] (by kernel_rfl) ?_
        refine OW.nil rfl ?_
        obtain rfl := Option.some.inj ho123
        exact QW.meet (fun a ha => ⟨ha.agrees (by kernel_rfl), hst.keep [] rfl⟩)
      ·have ho123 := zaT ho123 hc125
       refine OW.pure 19 [(0, .bool false)] (by kernel_rfl) ?_
       refine OW.nil rfl ?_
       obtain rfl := Option.some.inj ho123
       exact QW.meet (fun a ha => ⟨ha.agrees (by kernel_rfl), hst.keep [] rfl⟩)
     ·have ho123 := zaT ho123 hc124
      refine OW.pure 24 [(0, .bool false)] (by kernel_rfl) ?_
      refine OW.nil rfl ?_
      obtain rfl := Option.some.inj ho123
      exact QW.meet (fun a ha => ⟨ha.agrees (by kernel_rfl), hst.keep [] rfl⟩)
    ·rintro a w1 ⟨ha, hst⟩
     refine CW.go ?_ ha
     refine CW.ret ?_
     obtain rfl := Option.some.inj hF
     refine QW.ret1 rfl rfl ?_
     exact ⟨rfl, hst.keep [] rfl⟩
instance tappetref23_New_g : HasC (vL) (∀ (wb : World) (Sb : List Nat), Ctr Tryz.prog 8 [] [.bo wb Sb] [] (vL) (fun (r : zd) (i : Nat × (List Nat) × Unit) => (.pointer (some ⟨i.1, 0, none⟩), [itI (xi wb Sb) [.pointer (some ⟨i.1, 0, none⟩)] i.2.1 r]))) := ⟨fun wb Sb => .w (wk Tryz.func8 [.p 1, .fi, .p 1, .bx 90 1, .p 1, .bx 94 11, .p 1, .fi, .nr 183 xX 3, .a (.shx 0 [.r 2] [1] zfo (zi.mk ([] : List zp))), .nr 185 zB 5, .sh 0 [.s, .r 1, .r 2, .on] [] (zbj wb Sb), .rt [0]])⟩
set_option maxRecDepth 10000 in
set_option maxHeartbeats 4000000 in
theorem zcU (w : World) (wb : World) (Sb : List Nat)  (r : zd) (hF : vL  = some r)
    (hst : St w (fp []) w []) (hb : Bor wb Sb w (fp [])) :
    Calls Tryz.prog 8 [].toArray w (fun e w' => ∃ (y0 : Value) (z0 : List Nat), e = .returned (y0) /\ St w (fp []) w' [itI (xi wb Sb) [y0] z0 r]) := by
  refine (((tappetref23_New_g).c wb Sb).c w r ⟨hb, trivial⟩ hst hF).mono ?_
  rintro e w' ⟨i, rfl, hst'⟩
  exact ⟨_, _, rfl, hst'⟩
instance tappetref23_Worker_Take_g {p0 : zd} {p1 : Int} {p2 : jg} : HasC (xc p0 p1 p2) (∀ (wb : World) (Sb : List Nat) (b1 : Nat) (S0 : List Nat), Ctr Tryz.prog 23 [.pointer (some ⟨b1, 0, none⟩), .int .i64 p1, .agg [.int .i64 p2.N, .int .u64 p2.Ev.A, .int .u64 p2.Ev.B].toArray] [.bo wb Sb] [itI (xi wb Sb) [.pointer (some ⟨b1, 0, none⟩)] S0 p0] (xc p0 p1 p2) (fun (r : Int × zd) (i : (List Nat) × Unit) => (.int .i64 r.1, [itI (xi wb Sb) [.pointer (some ⟨b1, 0, none⟩)] i.1 r.2]))) := ⟨fun wb Sb b1 S0 => .w (wk Tryz.func23 [.bx 33 3, .p 1, .fi, .sc [0, 1, 5, 12] [] [] [(5, true)], .br [.p 1, .fi, .rt [0]] [.op 0 0 [8, 0], .p 3, .ld 0 2, .p 1, .fi, .br [.p 1, .fi, .sh 0 [.s, .r 2, .r 3, .r 4] [1] (zbj wb Sb), .rt [1]] [.p 3, .st 0 2 1, .fi, .p 4, .st 0 3 1, .fi, .p 1, .lN 1 0 3, .p 2, .st 0 4 3, .fi, .p 1, .fi, .sh 0 [.s, .r 2, .r 3, .r 4] [1] (zbj wb Sb), .rt [1]]]])⟩
instance tappetlaw23_copied_g {p0 : zj} : HasC (vq p0) (∀ (a2 : Option Addr) (c3 : Nat) (a5 : Option Addr) (c6 : Nat), Ctr Tryz.prog 24 [.agg [.slice a2 (p0.Ms).length c3, .slice a5 (p0.Co).length c6].toArray] [.rd (.slice a2 (p0.Ms).length c3) (zw .i64) 1 p0.Ms, .rd (.slice a5 (p0.Co).length c6) zo 5 p0.Co] [] (vq p0) (fun (r : zj) (i : (Option Addr) × Nat × (Option Addr) × Nat × Unit) => (.agg [.slice i.1 (r.Ms).length i.2.1, .slice i.2.2.1 (r.Co).length i.2.2.2.1].toArray, [jW (.slice i.1 (r.Ms).length i.2.1) 3 (zw .i64) 1 r.Ms, jW (.slice i.2.2.1 (r.Co).length i.2.2.2.1) 65 zo 5 r.Co]))) := ⟨fun a2 c3 a5 c6 => .w (wk Tryz.func24 [.bx 37 2, .al 37 [.slice none 0 0, .slice none 0 0], .fi, .ck [] (fun (o72 : Unit) (i : Nat × (Option Addr) × Nat × (Option Addr) × Nat × Unit) => [(2, .pointer (some ⟨i.1, 0, none⟩))]) [0, 0, 0] (fun (o72 : Unit) (i : Nat × (Option Addr) × Nat × (Option Addr) × Nat × Unit) => [jD i.1 37 [.slice i.2.1 ((([] : List Int) ++ p0.Ms)).length i.2.2.1, .slice i.2.2.2.1 ((([] : List zc) ++ p0.Co)).length i.2.2.2.2.1], jW (.slice i.2.1 ((([] : List Int) ++ p0.Ms)).length i.2.2.1) 3 (zw .i64) 1 (([] : List Int) ++ p0.Ms), jW (.slice i.2.2.2.1 ((([] : List zc) ++ p0.Co)).length i.2.2.2.2.1) 65 zo 5 (([] : List zc) ++ p0.Co)]) [.pl, .q [1], .l 2 (.ld 0 0), .q [5], .l 6 (.ld 0 1), .a2 0 [6, 2] 4 [6, 2] [.rw 0 3 (zw .i64) 1 (fun cs => zH cs 0), .nx [.ld 0 1, .ld 0 0], .a2 3 [6] 4 [6, 2] [.be, .ap 2 2 (.f 0), .nx [.ld 0 1], .ac 4 [6], .rw 0 65 zo 5 (fun cs => (zc.mk (zH cs 0) (zH cs 1) (zH cs 2) (zH cs 3) (zH cs 4))), .nx [.ld 0 1], .ac 7 [], .be, .ap 3 3 (.f 1), .nx [], .q [8], .ac 9 [], .st 1 0 2, .nx [], .fi, .mt [1, 2, 3]] [.be, .be, .rw 0 65 zo 5 (fun cs => (zc.mk (zH cs 0) (zH cs 1) (zH cs 2) (zH cs 3) (zH cs 4))), .nx [.ld 0 1, .ld 0 0], .ac 3 [6], .ap 2 2 (.f 0), .nx [.ld 0 1], .ac 7 [], .ap 3 3 (.f 1), .nx [], .q [8], .ac 9 [], .st 1 0 2, .nx [], .fi, .mt [1, 2, 3]]] [.rw 0 65 zo 5 (fun cs => (zc.mk (zH cs 0) (zH cs 1) (zH cs 2) (zH cs 3) (zH cs 4))), .nx [.ld 0 1, .ld 0 0], .ac 0 [6, 2], .rw 0 3 (zw .i64) 1 (fun cs => zH cs 0), .nx [.ld 0 1, .ld 0 0], .ac 3 [6], .be, .ap 2 3 (.f 0), .nx [.ld 0 1], .ac 7 [], .be, .ap 3 2 (.f 1), .nx [], .q [8], .ac 9 [], .st 1 0 2, .nx [], .fi, .mt [1, 3, 2]]], .rtc [1, 2] [⟨0, 0, 2⟩]])⟩
instance tappetref09_Maps_g {fu : Nat} {p0 : List Int} : HasC (jd fu p0) (∀ (a2 : Option Addr) (c3 : Nat), Ctr Tryz.prog 135 [.slice a2 (p0).length c3] [.rd (.slice a2 (p0).length c3) (zw .i64) 1 p0] [] (jd fu p0) (fun (r : Bool) (i : Unit) => (.bool r, []))) := ⟨fun a2 c3 => .w (wk Tryz.func135 [.p 1, .fi, .p 3, .fi, .br [.p 1, .fi, .rt []] [.p 1, .fi, .dn 0, .cs [] (fun (t510 : Unit) (i : Unit) => []) [] (fun (t510 : Unit) (i : Unit) => []) [.lp 3 0 [0] (fun (s780 : Unit) (i : Unit) => []) [] (fun (s780 : Unit) (i : Unit) => []) [], .p 4, .fi, .lc 2 [.ck [0, 3] (fun (o801 : Bool) (i : Unit) => [(25, .bool o801)]) [] (fun (o801 : Bool) (i : Unit) => []) [.p 2, .bi 0, .ix 3 1, .le 0 3 0, .p 2, .sp 19 [.p 6, .fi, .mt []] [.p 2, .ix 3 1, .le 0 3 0, .p 2, .fi, .mt []]], .br [.p 1, .fi, .pop 1, .rt []] [.p 1, .fi, .dn 0, .cs [0, 3] (fun (t915 : Unit) (i : Unit) => []) [] (fun (t915 : Unit) (i : Unit) => []) [.be, .lo 4 4 [0, 3] (fun (s979 : Unit) (i : Unit) => []) [] (fun (s979 : Unit) (i : Unit) => []) [], .p 3, .fi, .lc 5 [.sl, .p 2, .bi 0, .ix 6 1, .le 0 6 0, .p 2, .bi 0, .ix 7 1, .le 0 7 0, .p 1, .fi, .br [.p 1, .fi, .pop 3, .pop 1, .rt []] [.p 3, .fi, .bk 5 []]] [.mt []]], .p 3, .fi, .bk 2 []]] [.mt []]], .p 1, .fi, .rt []]])⟩
set_option maxRecDepth 10000 in
set_option maxHeartbeats 4000000 in
theorem zfj (w : World) (fu : Nat) (v0 : Value) (p0 : List Int) (r : Bool) (hF : jd fu p0 = some r)
    (hst : St w (fp []) w []) (h0 : Rd w (fp []) v0 (zw .i64) 1 p0) :
    Calls Tryz.prog 135 [v0].toArray w (fun e w' => e = .returned (.bool r) /\ St w (fp []) w' []) := by
  obtain ⟨l1, a2, c3, rfl⟩ := h0.len
  refine (((tappetref09_Maps_g (fu := fu) (p0 := p0)).c a2 c3).c w r ⟨h0, trivial⟩ hst hF).mono ?_
  rintro e w' ⟨i, rfl, hst'⟩
  exact ⟨rfl, hst'⟩
instance tappetref02_reg_g {p0 : Int} : HasC (qj p0) (Ctr Tryz.prog 163 [.int .i64 p0] [] [] (qj p0) (fun (r : Bool) (i : Unit) => (.bool r, []))) := ⟨.w (wk Tryz.func163 [.p 1, .fi, .sc [2] [] [] [(5, false)], .rt []])⟩
instance tappetref02_sourced_g {p0 : zc} : HasC (qX p0) (Ctr Tryz.prog 164 [.agg [.int .i64 p0.Op, .int .i64 p0.D, .int .i64 p0.A, .int .i64 p0.B, .int .i64 p0.Imm].toArray] [] [] (qX p0) (fun (r : Bool) (i : Unit) => (.bool r, []))) := ⟨.w (wk Tryz.func164 [.bx 65 5, .p 1, .fi, .ck [] (fun (o15 : Bool) (i : Unit) => [(2, .bool o15)]) [] (fun (o15 : Bool) (i : Unit) => []) [.p 1, .ld 0 3, .ca [] [] [0], .p 1, .sp 6 [.p 1, .ld 0 4, .p 3, .sp 11 [.p 5, .fi, .mt []] [.p 1, .ld 0 3, .p 3, .fi, .mt []]] [.p 6, .ld 0 3, .p 3, .fi, .mt []]], .rt []])⟩
instance tappetref02_Three_g {p0 : Int} : HasC (zX p0) (Ctr Tryz.prog 165 [.int .i64 p0] [] [] (zX p0) (fun (r : Bool) (i : Unit) => (.bool r, []))) := ⟨.w (wk Tryz.func165 [.p 1, .fi, .sc [2] [] [] [(5, false)], .rt []])⟩
instance tappetref02_Jump_g {p0 : Int} : HasC (jF p0) (Ctr Tryz.prog 166 [.int .i64 p0] [] [] (jF p0) (fun (r : Bool) (i : Unit) => (.bool r, []))) := ⟨.w (wk Tryz.func166 [.p 1, .fi, .sc [2] [] [] [(5, false)], .rt []])⟩
end Go.Proofs.YtbmknhpfkpmigaaGreatDoor

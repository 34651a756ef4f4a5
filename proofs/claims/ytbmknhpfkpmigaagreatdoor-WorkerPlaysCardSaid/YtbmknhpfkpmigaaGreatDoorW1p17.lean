/- Texts W1p17 of this proof. -/
import Derived.Test.YtbmknhpfkpmigaaGreatDoorProg
import Derived.Test.YtbmknhpfkpmigaaGreatDoorF1
import Derived.Test.YtbmknhpfkpmigaaGreatDoorEng8
import Derived.Test.YtbmknhpfkpmigaaGreatDoorEng4
import Derived.Test.YtbmknhpfkpmigaaGreatDoorArr
import Derived.Test.YtbmknhpfkpmigaaGreatDoorO1
import Derived.Test.YtbmknhpfkpmigaaGreatDoorW1p16
set_option linter.unusedVariables false
set_option linter.unusedSimpArgs false
set_option maxRecDepth 10000
set_option maxHeartbeats 4000000
namespace Go.Proofs.YtbmknhpfkpmigaaGreatDoor
open Go.Sx
set_option maxRecDepth 10000 in
set_option maxHeartbeats 4000000 in
theorem zcI (w : World) (wb : World) (Sb : List Nat) (fu : Nat) (v0 : Value) (p0 : List qz) (r : Bool) (hF : xP fu p0 = some r)
    (hst : St w (fp []) w []) (hb : Bor wb Sb w (fp [])) (h0 : RdN wb Sb v0 znV.rd 15 p0) (hT0 : Rd w (fp []) (.slice (some ⟨0, 0, none⟩) 7 7) zM 5 zap) (hT1 : Rd w (fp []) (.slice (some ⟨1, 0, none⟩) 23 23) zJ 2 zad) :
    Calls Tryz.prog 3 [v0].toArray w (fun e w' => e = .returned (.bool r) /\ St w (fp []) w' []) := by
 refine CW.start (N := 34) Tryz.func3 rfl rfl rfl ?_
 have h0b := h0.bor (by decide) hb
 obtain ⟨l1, a2, c3, rfl⟩ := h0b.len
 refine CW.seq ?_
 refine CW.region ?_
 refine OW.pure 1 [] (by kernel_rfl) ?_
 refine OW.nil rfl ?_
 refine QW.next ?_
 refine CW.seq ?_
 refine CW.seq ?_
 refine CW.region ?_
 obtain ⟨r8, hr9, hF⟩ := zo hF
 refine OW.fn rfl rfl rfl rfl (by kernel_rfl) (zeS _ fu r8 hr9 (hst.part [] rfl) (hT0.give hst []) (hT1.give hst [])) ?_
 rintro e w10 ⟨rfl, hst11⟩
 refine ⟨_, rfl, ?_⟩
 have hst := hst.join (idx := []) (rest := []) rfl hst11
 refine OW.pure 1 [(7, .bool (!r8))] (by kernel_rfl) ?_
 refine OW.nil rfl ?_
 refine QW.next ?_
 rcases zft ((!r8)) with hc12 | hc12
 ·have hF := zbq hF hc12
  refine CW.cond_t rfl hc12 ?_
  refine CW.seq ?_
  refine CW.region ?_
  refine OW.pure 1 [(2, .bool false)] (by kernel_rfl) ?_
  refine OW.nil rfl ?_
  refine QW.next ?_
  refine CW.ret ?_
  refine QW.then_ret ?_
  obtain rfl := Option.some.inj hF
  refine QW.ret1 rfl rfl ?_
  exact ⟨rfl, hst.keep [] rfl⟩
 ·have hF := zbr hF hc12
  refine CW.cond_f rfl hc12 ?_
  refine CW.skip ?_
  refine QW.next ?_
  refine CW.seq ?_
  refine CW.region ?_
  obtain ⟨r20, hr21, hF⟩ := zo hF
  refine OW.fn rfl rfl rfl rfl (by kernel_rfl) (zfM _ r20 hr21 (hst.part [] rfl)) ?_
  rintro e w22 ⟨v24, S25, rfl, hst23⟩
  refine ⟨_, rfl, ?_⟩
  have hst := hst.join (idx := []) (rest := []) rfl hst23
  obtain ⟨b26, rfl⟩ := hst.fptr 0 rfl
  refine OW.pure 1 [(3, .pointer (some ⟨b26, 0, none⟩))] (by kernel_rfl) ?_
  refine OW.nil rfl ?_
  refine QW.next ?_
  refine CW.seq ?_
  refine CW.region ?_
  obtain ⟨r34, hr35, hF⟩ := zo hF
  refine OW.fn rfl rfl rfl rfl (by kernel_rfl) (zfQ _ wb Sb r34 hr35 (hst.part [] rfl) (hb.on hst [])) ?_
  rintro e w36 ⟨v38, S39, rfl, hst37⟩
  refine ⟨_, rfl, ?_⟩
  have hst := hst.join (idx := []) (rest := [0]) rfl hst37
  obtain ⟨b40, rfl⟩ := hst.fptr 0 rfl
  refine OW.pure 1 [(4, .pointer (some ⟨b40, 0, none⟩))] (by kernel_rfl) ?_
  refine OW.nil rfl ?_
  refine QW.next ?_
  refine CW.seq ?_
  refine CW.seq ?_
  refine CW.region ?_
  refine OW.pure 1 [(5, .int .i64 0)] (by kernel_rfl) ?_
  refine OW.nil rfl ?_
  refine QW.next ?_
  obtain ⟨o339, ho340, hF⟩ := zo hF
  refine CW.cutK (fun a w1 => ∃ (t341 : Unit), o339 = .inl t341 /\ Rep 34 [] a /\ St w (fp []) w1 []) ?_ ?_
  ·refine CW.block ?_
   refine CW.loop (fun n a w1 => ∃ (s541 : zi × ze × Int) (S542 : List Nat) (S543 : List Nat), Rep 34 [(0, .slice a2 (p0).length c3), (3, .pointer (some ⟨b26, 0, none⟩)), (4, .pointer (some ⟨b40, 0, none⟩)), (5, .int .i64 s541.2.2)] a /\ St w (fp []) w1 [itI qP [.pointer (some ⟨b26, 0, none⟩)] S542 s541.1, itI (xw wb Sb) [.pointer (some ⟨b40, 0, none⟩)] S543 s541.2.1] /\ loop (vj fu p0) n s541 = some o339) fu (fun a ha => ⟨(r20, r34, 0), S25, S39, ha.agrees (by kernel_rfl), hst.keep [1, 0] rfl, ho340⟩) ?_
   rintro n539 a w1 ⟨s541, S542, S543, ha, hst, hl540⟩
   rcases n539 with _ | n539
   ·exact (ziW hl540).elim
   refine CW.go ?_ ha
   refine CW.seq ?_
   refine CW.seq ?_
   refine CW.cutK (fun a w1 => Rep 34 [(0, .slice a2 (p0).length c3), (3, .pointer (some ⟨b26, 0, none⟩)), (4, .pointer (some ⟨b40, 0, none⟩)), (5, .int .i64 s541.2.2), (17, .bool (decide (s541.2.2 < ((p0).length : Int)) && decide (s541.2.2 < 100)))] a /\ St w (fp []) w1 [itI qP [.pointer (some ⟨b26, 0, none⟩)] S542 s541.1, itI (xw wb Sb) [.pointer (some ⟨b40, 0, none⟩)] S543 s541.2.1]) ?_ ?_
   ·refine CW.region ?_
    refine OW.pure 5 [(14, .bool (decide (s541.2.2 < ((p0).length : Int))))] (by kernel_rfl) ?_
    refine OW.split 14 rfl (fun hc544 => ?_) (fun hc544 => ?_)
    ·refine OW.pure 3 [(17, .bool (decide (s541.2.2 < 100)))] (by kernel_rfl) ?_
     refine OW.nil rfl ?_
     refine QW.say 17 (v := .bool (decide (s541.2.2 < ((p0).length : Int)) && decide (s541.2.2 < 100))) rfl (by first | (rw [hc544]; done) | (rw [hc544]; rfl) | simp [hc544]) ?_
     exact QW.meet (fun a ha => ⟨ha.agrees (by kernel_rfl), hst.keep [0, 1] rfl⟩)
    ·refine OW.pure 3 [(17, .bool false)] (by kernel_rfl) ?_
     refine OW.nil rfl ?_
     refine QW.say 17 (v := .bool (decide (s541.2.2 < ((p0).length : Int)) && decide (s541.2.2 < 100))) rfl (by first | (rw [hc544]; done) | (rw [hc544]; rfl) | simp [hc544]) ?_
     exact QW.meet (fun a ha => ⟨ha.agrees (by kernel_rfl), hst.keep [0, 1] rfl⟩)
   ·rintro a w1 ⟨ha, hst⟩
    refine CW.go ?_ ha
    rcases zft ((decide (s541.2.2 < ((p0).length : Int)) && decide (s541.2.2 < 100))) with hc545 | hc545
    ·have hl540 := zbq hl540 hc545
     refine CW.cond_t rfl hc545 ?_
     refine CW.skip ?_
     refine QW.next ?_
     refine CW.seq ?_
     refine CW.block ?_
     refine CW.seq ?_
     obtain ⟨o605, ho606, hl540⟩ := zo hl540
     refine CW.cutK (fun a w1 => ∃ (S603 : List Nat) (S604 : List Nat), Rep 34 [(0, .slice a2 (p0).length c3), (3, .pointer (some ⟨b26, 0, none⟩)), (4, .pointer (some ⟨b40, 0, none⟩)), (5, .int .i64 s541.2.2), (33, .bool o605.2.2)] a /\ St w (fp []) w1 [itI qP [.pointer (some ⟨b26, 0, none⟩)] S603 o605.1, itI (xw wb Sb) [.pointer (some ⟨b40, 0, none⟩)] S604 o605.2.1]) ?_ ?_
     ·refine CW.region ?_
      refine OW.pure 4 [(20, .pointer (some ⟨b26, 0, none⟩)), (21, .pointer (some ⟨b40, 0, none⟩)), (22, .slice a2 (p0).length c3), (23, .int .i64 s541.2.2)] (by kernel_rfl) ?_
      obtain ⟨x607, hx608, ho606⟩ := zo ho606
      obtain ⟨g610, o611, c612, cs613, hv609, hd614, hl615⟩ := RdN.formB (R := znV) h0 hb hx608
      obtain ⟨_, rfl, ⟨_, _, rfl, ⟨v616, rfl, h617⟩, ⟨v618, rfl, h619⟩⟩⟩ := hd614
      have h617 : Rd _ _ _ _ _ x607.M.Ms := h617
      have h617b := h617.bor hb
      have h619 : Rd _ _ _ _ _ x607.M.Co := h619
      have h619b := h619.bor hb
      obtain ⟨l620, a621, c622, rfl⟩ := h617b.len
      obtain ⟨l623, a624, c625, rfl⟩ := h619b.len
      refine OW.idx 42 15 rfl rfl rfl rfl hv609 rfl (jV hx608).1 (jV hx608).2.1 (by kernel_rfl) (by kernel_rfl) ?_
      refine OW.ldN (cs := [.int .i64 x607.Ki, .int .i64 x607.Hook, .int .i64 x607.Version, .int .i64 x607.Prog, .int .i64 x607.Q.N, .int .u64 x607.Q.Ev.A, .int .u64 x607.Q.Ev.B, .slice a621 (x607.M.Ms).length c622, .slice a624 (x607.M.Co).length c625, .int .i64 x607.Res.E, .bool x607.Res.Found, .int .u64 x607.Res.Val, .bool x607.Res.Out, .int .u64 x607.Res.OutKey, .int .u64 x607.Res.OutVal]) rfl rfl rfl rfl (by kernel_rfl) (by kernel_rfl) (fun q u hu => hl615 q u hu _ _ hst) ?_
      obtain ⟨r626, hr627, ho606⟩ := zo ho606
      refine OW.fn rfl rfl rfl rfl (by kernel_rfl) (zeQ _ wb Sb fu (.pointer (some ⟨b26, 0, none⟩)) S542 s541.1 (.pointer (some ⟨b40, 0, none⟩)) S543 s541.2.1 (.slice a621 (x607.M.Ms).length c622) (.slice a624 (x607.M.Co).length c625) x607 r626 hr627 (hst.part [0, 1] rfl) (hb.on hst [0, 1]) h617 h619 (hT0.give hst [0, 1]) (hT1.give hst [0, 1])) ?_
      rintro e w628 ⟨S630, S631, rfl, hst629⟩
      refine ⟨_, rfl, ?_⟩
      have hst := hst.join (idx := [0, 1]) (rest := []) rfl hst629
      refine OW.pure 2 [(28, .bool (!r626.1))] (by kernel_rfl) ?_
      refine OW.split 28 rfl (fun hc632 => ?_) (fun hc632 => ?_)
      ·have ho606 := zbq ho606 hc632
       refine OW.pure 5 [(33, .bool true)] (by kernel_rfl) ?_
       refine OW.nil rfl ?_
       obtain rfl := Option.some.inj ho606
       exact QW.meet (fun a ha => ⟨S630, S631, ha.agrees (by kernel_rfl), hst.keep [0, 1] rfl⟩)
      ·have ho606 := zbr ho606 hc632
       refine OW.pure 2 [(29, .pointer (some ⟨b26, 0, none⟩)), (30, .pointer (some ⟨b40, 0, none⟩))] (by kernel_rfl) ?_
       obtain ⟨r633, hr634, ho606⟩ := zo ho606
       refine OW.fn rfl rfl rfl rfl (by kernel_rfl) (zeR _ wb Sb fu (.pointer (some ⟨b26, 0, none⟩)) S630 r626.2.1 (.pointer (some ⟨b40, 0, none⟩)) S631 r626.2.2 r633 hr634 (hst.part [0, 1] rfl) (hb.on hst [0, 1])) ?_
       rintro e w635 ⟨S637, S638, rfl, hst636⟩
       refine ⟨_, rfl, ?_⟩
       have hst := hst.join (idx := [0, 1]) (rest := []) rfl hst636
       refine OW.pure 2 [(33, .bool (!r633))] (by kernel_rfl) ?_
       refine OW.nil rfl ?_
       obtain rfl := Option.some.inj ho606
       exact QW.meet (fun a ha => ⟨S637, S638, ha.agrees (by kernel_rfl), hst.keep [0, 1] rfl⟩)
     ·rintro a w1 ⟨S603, S604, ha, hst⟩
      refine CW.go ?_ ha
      rcases zft (o605.2.2) with hc639 | hc639
      ·have hl540 := zbq hl540 hc639
       refine CW.cond_t rfl hc639 ?_
       refine CW.seq ?_
       refine CW.region ?_
       refine OW.pure 1 [(2, .bool false)] (by kernel_rfl) ?_
       refine OW.nil rfl ?_
       refine QW.next ?_
       refine CW.ret ?_
       refine QW.block_ret ?_
       refine QW.then_ret ?_
       refine QW.then_ret ?_
       refine QW.block_ret ?_
       refine QW.then_ret ?_
       obtain rfl := Option.some.inj hl540
       obtain rfl := Option.some.inj hF
       refine QW.ret1 rfl rfl ?_
       exact ⟨rfl, hst.keep [] rfl⟩
      ·have hl540 := zbr hl540 hc639
       refine CW.cond_f rfl hc639 ?_
       refine CW.skip ?_
       refine QW.block_normal ?_
       refine QW.next ?_
       refine CW.region ?_
       refine OW.pure 3 [(5, .int .i64 (w64 (s541.2.2 + 1)))] (by kernel_rfl) ?_
       refine OW.nil rfl ?_
       exact QW.meet (fun a ha => ⟨n539, zls _, (o605.1, o605.2.1, w64 (s541.2.2 + 1)), S603, S604, ha.agrees (by kernel_rfl), hst.keep [0, 1] rfl, hl540⟩)
    ·have hl540 := zbr hl540 hc545
     refine CW.cond_f rfl hc545 ?_
     refine CW.exit ?_
     refine QW.then_exit ?_
     refine QW.then_exit ?_
     refine QW.block_here ?_
     obtain rfl := Option.some.inj hl540
     exact QW.meet (fun a ha => ⟨(), rfl, ha.agrees (by kernel_rfl), hst.keep [] rfl⟩)
  ·rintro a w1 ⟨t341, rfl, ha, hst⟩
   refine CW.go ?_ ha
   refine CW.seq ?_
   refine CW.region ?_
   refine OW.pure 1 [(2, .bool true)] (by kernel_rfl) ?_
   refine OW.nil rfl ?_
   refine QW.next ?_
   refine CW.ret ?_
   obtain rfl := Option.some.inj hF
   refine QW.ret1 rfl rfl ?_
   exact ⟨rfl, hst.keep [] rfl⟩
end Go.Proofs.YtbmknhpfkpmigaaGreatDoor

/- Texts W1 of this proof. -/
import Derived.Test.YtbmknhpfkpmigaaGreatDoorW1p17
set_option linter.unusedVariables false
set_option linter.unusedSimpArgs false
set_option maxRecDepth 10000
set_option maxHeartbeats 4000000
namespace Go.Proofs.YtbmknhpfkpmigaaGreatDoor
open Go.Sx
set_option maxRecDepth 10000 in
set_option maxHeartbeats 4000000 in
theorem zcJ (w : World) (wb : World) (Sb : List Nat) (fu : Nat) (v0 : Value) (p0 : List zR) (v1 : Value) (p1 : List zR) (r : Bool) (hF : xQ fu p0 p1 = some r)
    (hst : St w (fp []) w []) (hb : Bor wb Sb w (fp [])) (h0 : RdN wb Sb v0 zkv.rd 15 p0) (h1 : RdN wb Sb v1 zkv.rd 15 p1) (hT0 : Rd w (fp []) (.slice (some ⟨0, 0, none⟩) 7 7) zM 5 zaq) (hT1 : Rd w (fp []) (.slice (some ⟨1, 0, none⟩) 23 23) zJ 2 zaf) :
    Calls Tryz.prog 4 [v0, v1].toArray w (fun e w' => e = .returned (.bool r) /\ St w (fp []) w' []) := by
 refine CW.start (N := 70) Tryz.func4 rfl rfl rfl ?_
 have h0b := h0.bor (by decide) hb
 have h1b := h1.bor (by decide) hb
 obtain ⟨l1, a2, c3, rfl⟩ := h0b.len
 obtain ⟨l4, a5, c6, rfl⟩ := h1b.len
 refine CW.seq ?_
 refine CW.region ?_
 refine OW.pure 1 [] (by kernel_rfl) ?_
 refine OW.nil rfl ?_
 refine QW.next ?_
 refine CW.seq ?_
 refine CW.seq ?_
 refine CW.region ?_
 obtain ⟨r11, hr12, hF⟩ := zn hF
 refine OW.fn rfl rfl rfl rfl (by kernel_rfl) (zeV _ fu r11 hr12 (hst.part [] rfl) (hT0.give hst []) (hT1.give hst [])) ?_
 rintro e w13 ⟨rfl, hst14⟩
 refine ⟨_, rfl, ?_⟩
 have hst := hst.join (idx := []) (rest := []) rfl hst14
 refine OW.pure 1 [(11, .bool (!r11))] (by kernel_rfl) ?_
 refine OW.nil rfl ?_
 refine QW.next ?_
 rcases zft ((!r11)) with hc15 | hc15
 ·have hF := zaS hF hc15
  refine CW.cond_t rfl hc15 ?_
  refine CW.seq ?_
  refine CW.region ?_
  refine OW.pure 1 [(4, .bool false)] (by kernel_rfl) ?_
  refine OW.nil rfl ?_
  refine QW.next ?_
  refine CW.ret ?_
  refine QW.then_ret ?_
  obtain rfl := Option.some.inj hF
  refine QW.ret1 rfl rfl ?_
  exact ⟨rfl, hst.keep [] rfl⟩
 ·have hF := zaT hF hc15
  refine CW.cond_f rfl hc15 ?_
  refine CW.skip ?_
  refine QW.next ?_
  refine CW.seq ?_
  refine CW.region ?_
  obtain ⟨r30, hr31, hF⟩ := zn hF
  refine OW.fn rfl rfl rfl rfl (by kernel_rfl) (zdR _ r30 hr31 (hst.part [] rfl)) ?_
  rintro e w33 ⟨v35, S36, rfl, hst34⟩
  refine ⟨_, rfl, ?_⟩
  have hst := hst.join (idx := []) (rest := []) rfl hst34
  obtain ⟨b37, rfl⟩ := hst.fptr 0 rfl
  obtain ⟨r38, hr39, hF⟩ := zn hF
  refine OW.fn rfl rfl rfl rfl (by kernel_rfl) (zdR _ r38 hr39 (hst.part [] rfl)) ?_
  rintro e w40 ⟨v42, S43, rfl, hst41⟩
  refine ⟨_, rfl, ?_⟩
  have hst := hst.join (idx := []) (rest := [0]) rfl hst41
  obtain ⟨b44, rfl⟩ := hst.fptr 0 rfl
  refine OW.pure 2 [(5, .pointer (some ⟨b37, 0, none⟩)), (6, .pointer (some ⟨b44, 0, none⟩))] (by kernel_rfl) ?_
  refine OW.nil rfl ?_
  refine QW.next ?_
  refine CW.seq ?_
  refine CW.region ?_
  obtain ⟨r59, hr60, hF⟩ := zn hF
  refine OW.fn rfl rfl rfl rfl (by kernel_rfl) (zcU _ wb Sb r59 hr60 (hst.part [] rfl) (hb.on hst [])) ?_
  rintro e w61 ⟨v63, S64, rfl, hst62⟩
  refine ⟨_, rfl, ?_⟩
  have hst := hst.join (idx := []) (rest := [0, 1]) rfl hst62
  obtain ⟨b65, rfl⟩ := hst.fptr 0 rfl
  obtain ⟨r66, hr67, hF⟩ := zn hF
  refine OW.fn rfl rfl rfl rfl (by kernel_rfl) (zcU _ wb Sb r66 hr67 (hst.part [] rfl) (hb.on hst [])) ?_
  rintro e w68 ⟨v70, S71, rfl, hst69⟩
  refine ⟨_, rfl, ?_⟩
  have hst := hst.join (idx := []) (rest := [0, 1, 2]) rfl hst69
  obtain ⟨b72, rfl⟩ := hst.fptr 0 rfl
  refine OW.pure 2 [(7, .pointer (some ⟨b65, 0, none⟩)), (8, .pointer (some ⟨b72, 0, none⟩))] (by kernel_rfl) ?_
  refine OW.nil rfl ?_
  refine QW.next ?_
  refine CW.seq ?_
  refine CW.seq ?_
  refine CW.region ?_
  refine OW.pure 1 [(9, .int .i64 0)] (by kernel_rfl) ?_
  refine OW.nil rfl ?_
  refine QW.next ?_
  obtain ⟨o597, ho598, hF⟩ := zn hF
  refine CW.cutK (fun a w1 => ∃ (t599 : zg × zg × zd × zd) (S593 : List Nat) (S594 : List Nat) (S595 : List Nat) (S596 : List Nat), o597 = .inl t599 /\ Rep 70 [(5, .pointer (some ⟨b37, 0, none⟩)), (6, .pointer (some ⟨b44, 0, none⟩)), (7, .pointer (some ⟨b65, 0, none⟩)), (8, .pointer (some ⟨b72, 0, none⟩))] a /\ St w (fp []) w1 [itI qF [.pointer (some ⟨b37, 0, none⟩)] S593 t599.1, itI qF [.pointer (some ⟨b44, 0, none⟩)] S594 t599.2.1, itI (xi wb Sb) [.pointer (some ⟨b65, 0, none⟩)] S595 t599.2.2.1, itI (xi wb Sb) [.pointer (some ⟨b72, 0, none⟩)] S596 t599.2.2.2]) ?_ ?_
  ·refine CW.block ?_
   refine CW.loop (fun n a w1 => ∃ (s947 : zg × zg × zd × zd × Int) (S948 : List Nat) (S949 : List Nat) (S950 : List Nat) (S951 : List Nat), Rep 70 [(0, .slice a2 (p0).length c3), (1, .slice a5 (p1).length c6), (5, .pointer (some ⟨b37, 0, none⟩)), (6, .pointer (some ⟨b44, 0, none⟩)), (7, .pointer (some ⟨b65, 0, none⟩)), (8, .pointer (some ⟨b72, 0, none⟩)), (9, .int .i64 s947.2.2.2.2)] a /\ St w (fp []) w1 [itI qF [.pointer (some ⟨b37, 0, none⟩)] S948 s947.1, itI qF [.pointer (some ⟨b44, 0, none⟩)] S949 s947.2.1, itI (xi wb Sb) [.pointer (some ⟨b65, 0, none⟩)] S950 s947.2.2.1, itI (xi wb Sb) [.pointer (some ⟨b72, 0, none⟩)] S951 s947.2.2.2.1] /\ loop (vj fu p0 p1) n s947 = some o597) fu (fun a ha => ⟨(r30, r38, r59, r66, 0), S36, S43, S64, S71, ha.agrees (by kernel_rfl), hst.keep [3, 2, 1, 0] rfl, ho598⟩) ?_
   rintro n945 a w1 ⟨s947, S948, S949, S950, S951, ha, hst, hl946⟩
   rcases n945 with _ | n945
   ·exact (ziY hl946).elim
   refine CW.go ?_ ha
   refine CW.seq ?_
   refine CW.seq ?_
   refine CW.cutK (fun a w1 => Rep 70 [(0, .slice a2 (p0).length c3), (1, .slice a5 (p1).length c6), (5, .pointer (some ⟨b37, 0, none⟩)), (6, .pointer (some ⟨b44, 0, none⟩)), (7, .pointer (some ⟨b65, 0, none⟩)), (8, .pointer (some ⟨b72, 0, none⟩)), (9, .int .i64 s947.2.2.2.2), (29, .bool ((decide (s947.2.2.2.2 < ((p0).length : Int)) || decide (s947.2.2.2.2 < ((p1).length : Int))) && decide (s947.2.2.2.2 < 60)))] a /\ St w (fp []) w1 [itI qF [.pointer (some ⟨b37, 0, none⟩)] S948 s947.1, itI qF [.pointer (some ⟨b44, 0, none⟩)] S949 s947.2.1, itI (xi wb Sb) [.pointer (some ⟨b65, 0, none⟩)] S950 s947.2.2.1, itI (xi wb Sb) [.pointer (some ⟨b72, 0, none⟩)] S951 s947.2.2.2.1]) ?_ ?_
   ·refine CW.region ?_
    refine OW.pure 5 [(20, .bool (decide (s947.2.2.2.2 < ((p0).length : Int))))] (by kernel_rfl) ?_
    refine OW.split 20 rfl (fun hc952 => ?_) (fun hc952 => ?_)
    ·refine OW.pure 9 [(29, .bool (decide (s947.2.2.2.2 < 60)))] (by kernel_rfl) ?_
     refine OW.nil rfl ?_
     refine QW.say 29 (v := .bool ((decide (s947.2.2.2.2 < ((p0).length : Int)) || decide (s947.2.2.2.2 < ((p1).length : Int))) && decide (s947.2.2.2.2 < 60))) rfl (by first | (rw [hc952]; done) | (rw [hc952]; rfl) | simp [hc952]) ?_
     exact QW.meet (fun a ha => ⟨ha.agrees (by kernel_rfl), hst.keep [0, 1, 2, 3] rfl⟩)
    ·refine OW.pure 6 [(26, .bool (decide (s947.2.2.2.2 < ((p1).length : Int))))] (by kernel_rfl) ?_
     refine OW.split 26 rfl (fun hc953 => ?_) (fun hc953 => ?_)
     ·refine OW.pure 3 [(29, .bool (decide (s947.2.2.2.2 < 60)))] (by kernel_rfl) ?_
      refine OW.nil rfl ?_
      refine QW.say 29 (v := .bool ((decide (s947.2.2.2.2 < ((p0).length : Int)) || decide (s947.2.2.2.2 < ((p1).length : Int))) && decide (s947.2.2.2.2 < 60))) rfl (by first | (rw [hc952, hc953]; done) | (rw [hc952, hc953]; rfl) | simp [hc952, hc953]) ?_
      exact QW.meet (fun a ha => ⟨ha.agrees (by kernel_rfl), hst.keep [0, 1, 2, 3] rfl⟩)
     ·refine OW.pure 3 [(29, .bool false)] (by kernel_rfl) ?_
      refine OW.nil rfl ?_
      refine QW.say 29 (v := .bool ((decide (s947.2.2.2.2 < ((p0).length : Int)) || decide (s947.2.2.2.2 < ((p1).length : Int))) && decide (s947.2.2.2.2 < 60))) rfl (by first | (rw [hc952, hc953]; done) | (rw [hc952, hc953]; rfl) | simp [hc952, hc953]) ?_
      exact QW.meet (fun a ha => ⟨ha.agrees (by kernel_rfl), hst.keep [0, 1, 2, 3] rfl⟩)
   ·rintro a w1 ⟨ha, hst⟩
    refine CW.go ?_ ha
    rcases zft (((decide (s947.2.2.2.2 < ((p0).length : Int)) || decide (s947.2.2.2.2 < ((p1).length : Int))) && decide (s947.2.2.2.2 < 60))) with hc954 | hc954
    ·have hl946 := zaS hl946 hc954
     refine CW.cond_t rfl hc954 ?_
     refine CW.skip ?_
     refine QW.next ?_
     refine CW.seq ?_
     refine CW.block ?_
     refine CW.seq ?_
     obtain ⟨o1038, ho1039, hl946⟩ := zn hl946
     refine CW.cutK (fun a w1 => ∃ (S1034 : List Nat) (S1035 : List Nat) (S1036 : List Nat) (S1037 : List Nat), Rep 70 [(0, .slice a2 (p0).length c3), (1, .slice a5 (p1).length c6), (5, .pointer (some ⟨b37, 0, none⟩)), (6, .pointer (some ⟨b44, 0, none⟩)), (7, .pointer (some ⟨b65, 0, none⟩)), (8, .pointer (some ⟨b72, 0, none⟩)), (9, .int .i64 s947.2.2.2.2), (61, .bool o1038.2.2.2.2)] a /\ St w (fp []) w1 [itI qF [.pointer (some ⟨b37, 0, none⟩)] S1034 o1038.1, itI qF [.pointer (some ⟨b44, 0, none⟩)] S1035 o1038.2.1, itI (xi wb Sb) [.pointer (some ⟨b65, 0, none⟩)] S1036 o1038.2.2.1, itI (xi wb Sb) [.pointer (some ⟨b72, 0, none⟩)] S1037 o1038.2.2.2.1]) ?_ ?_
     ·refine CW.region ?_
      refine OW.pure 5 [(36, .bool (decide (s947.2.2.2.2 < ((p0).length : Int))))] (by kernel_rfl) ?_
      refine OW.split 36 rfl (fun hc1040 => ?_) (fun hc1040 => ?_)
      ·have ho1039 := zaS ho1039 hc1040
       refine OW.pure 4 [(37, .pointer (some ⟨b37, 0, none⟩)), (38, .pointer (some ⟨b65, 0, none⟩)), (39, .slice a2 (p0).length c3), (40, .int .i64 s947.2.2.2.2)] (by kernel_rfl) ?_
       obtain ⟨x1041, hx1042, ho1039⟩ := zn ho1039
       obtain ⟨g1044, o1045, c1046, cs1047, hv1043, hd1048, hl1049⟩ := RdN.formB (R := zkv) h0 hb hx1042
       obtain ⟨_, rfl, ⟨_, _, rfl, ⟨v1050, rfl, h1051⟩, ⟨v1052, rfl, h1053⟩⟩⟩ := hd1048
       have h1051 : Rd _ _ _ _ _ x1041.M.Ms := h1051
       have h1051b := h1051.bor hb
       have h1053 : Rd _ _ _ _ _ x1041.M.Co := h1053
       have h1053b := h1053.bor hb
       obtain ⟨l1054, a1055, c1056, rfl⟩ := h1051b.len
       obtain ⟨l1057, a1058, c1059, rfl⟩ := h1053b.len
       refine OW.idx 42 15 rfl rfl rfl rfl hv1043 rfl (qS hx1042).1 (qS hx1042).2.1 (by kernel_rfl) (by kernel_rfl) ?_
       refine OW.ldN (cs := [.int .i64 x1041.Ki, .int .i64 x1041.Hook, .int .i64 x1041.Version, .int .i64 x1041.Prog, .int .i64 x1041.Q.N, .int .u64 x1041.Q.Ev.A, .int .u64 x1041.Q.Ev.B, .slice a1055 (x1041.M.Ms).length c1056, .slice a1058 (x1041.M.Co).length c1059, .int .i64 x1041.Res.E, .bool x1041.Res.Found, .int .u64 x1041.Res.Val, .bool x1041.Res.Out, .int .u64 x1041.Res.OutKey, .int .u64 x1041.Res.OutVal]) rfl rfl rfl rfl (by kernel_rfl) (by kernel_rfl) (fun q u hu => hl1049 q u hu _ _ hst) ?_
       obtain ⟨r1060, hr1061, ho1039⟩ := zn ho1039
       refine OW.fn rfl rfl rfl rfl (by kernel_rfl) (zaU _ wb Sb fu (.pointer (some ⟨b37, 0, none⟩)) S948 s947.1 (.pointer (some ⟨b65, 0, none⟩)) S950 s947.2.2.1 (.slice a1055 (x1041.M.Ms).length c1056) (.slice a1058 (x1041.M.Co).length c1059) x1041 r1060 hr1061 (hst.part [0, 2] rfl) (hb.on hst [0, 2]) h1051 h1053 (hT0.give hst [0, 2]) (hT1.give hst [0, 2])) ?_
       rintro e w1062 ⟨S1064, S1065, rfl, hst1063⟩
       refine ⟨_, rfl, ?_⟩
       have hst := hst.join (idx := [0, 2]) (rest := [1, 3]) rfl hst1063
       refine OW.pure 3 [(46, .bool (!r1060.1))] (by kernel_rfl) ?_
       refine OW.split 46 rfl (fun hc1066 => ?_) (fun hc1066 => ?_)
       ·have ho1039 := zaS ho1039 hc1066
        refine OW.pure 15 [(61, .bool true)] (by kernel_rfl) ?_
        refine OW.nil rfl ?_
        obtain rfl := Option.some.inj ho1039
        exact QW.meet (fun a ha => ⟨S1064, S949, S1065, S951, ha.agrees (by kernel_rfl), hst.keep [0, 2, 1, 3] rfl⟩)
       ·have ho1039 := zaT ho1039 hc1066
        refine OW.pure 5 [(51, .bool (decide (s947.2.2.2.2 < ((p1).length : Int))))] (by kernel_rfl) ?_
        refine OW.split 51 rfl (fun hc1067 => ?_) (fun hc1067 => ?_)
        ·have ho1039 := zaS ho1039 hc1067
         refine OW.pure 4 [(52, .pointer (some ⟨b44, 0, none⟩)), (53, .pointer (some ⟨b72, 0, none⟩)), (54, .slice a5 (p1).length c6), (55, .int .i64 s947.2.2.2.2)] (by kernel_rfl) ?_
         obtain ⟨x1068, hx1069, ho1039⟩ := zn ho1039
         obtain ⟨g1071, o1072, c1073, cs1074, hv1070, hd1075, hl1076⟩ := RdN.formB (R := zkv) h1 hb hx1069
         obtain ⟨_, rfl, ⟨_, _, rfl, ⟨v1077, rfl, h1078⟩, ⟨v1079, rfl, h1080⟩⟩⟩ := hd1075
         have h1078 : Rd _ _ _ _ _ x1068.M.Ms := h1078
         have h1078b := h1078.bor hb
         have h1080 : Rd _ _ _ _ _ x1068.M.Co := h1080
         have h1080b := h1080.bor hb
         obtain ⟨l1081, a1082, c1083, rfl⟩ := h1078b.len
         obtain ⟨l1084, a1085, c1086, rfl⟩ := h1080b.len
         refine OW.idx 42 15 rfl rfl rfl rfl hv1070 rfl (qS hx1069).1 (qS hx1069).2.1 (by kernel_rfl) (by kernel_rfl) ?_
         refine OW.ldN (cs := [.int .i64 x1068.Ki, .int .i64 x1068.Hook, .int .i64 x1068.Version, .int .i64 x1068.Prog, .int .i64 x1068.Q.N, .int .u64 x1068.Q.Ev.A, .int .u64 x1068.Q.Ev.B, .slice a1082 (x1068.M.Ms).length c1083, .slice a1085 (x1068.M.Co).length c1086, .int .i64 x1068.Res.E, .bool x1068.Res.Found, .int .u64 x1068.Res.Val, .bool x1068.Res.Out, .int .u64 x1068.Res.OutKey, .int .u64 x1068.Res.OutVal]) rfl rfl rfl rfl (by kernel_rfl) (by kernel_rfl) (fun q u hu => hl1076 q u hu _ _ hst) ?_
         obtain ⟨r1087, hr1088, ho1039⟩ := zn ho1039
         refine OW.fn rfl rfl rfl rfl (by kernel_rfl) (zaU _ wb Sb fu (.pointer (some ⟨b44, 0, none⟩)) S949 s947.2.1 (.pointer (some ⟨b72, 0, none⟩)) S951 s947.2.2.2.1 (.slice a1082 (x1068.M.Ms).length c1083) (.slice a1085 (x1068.M.Co).length c1086) x1068 r1087 hr1088 (hst.part [2, 3] rfl) (hb.on hst [2, 3]) h1078 h1080 (hT0.give hst [2, 3]) (hT1.give hst [2, 3])) ?_
         rintro e w1089 ⟨S1091, S1092, rfl, hst1090⟩
         refine ⟨_, rfl, ?_⟩
         have hst := hst.join (idx := [2, 3]) (rest := [0, 1]) rfl hst1090
         refine OW.pure 3 [(61, .bool (!r1087.1))] (by kernel_rfl) ?_
         refine OW.nil rfl ?_
         obtain rfl := Option.some.inj ho1039
         exact QW.meet (fun a ha => ⟨S1064, S1091, S1065, S1092, ha.agrees (by kernel_rfl), hst.keep [2, 0, 3, 1] rfl⟩)
        ·have ho1039 := zaT ho1039 hc1067
         refine OW.pure 10 [(61, .bool false)] (by kernel_rfl) ?_
         refine OW.nil rfl ?_
         obtain rfl := Option.some.inj ho1039
         exact QW.meet (fun a ha => ⟨S1064, S949, S1065, S951, ha.agrees (by kernel_rfl), hst.keep [0, 2, 1, 3] rfl⟩)
      ·have ho1039 := zaT ho1039 hc1040
       refine OW.pure 15 [(46, .bool false), (51, .bool (decide (s947.2.2.2.2 < ((p1).length : Int))))] (by kernel_rfl) ?_
       refine OW.split 51 rfl (fun hc1093 => ?_) (fun hc1093 => ?_)
       ·have ho1039 := zaS ho1039 hc1093
        refine OW.pure 4 [(52, .pointer (some ⟨b44, 0, none⟩)), (53, .pointer (some ⟨b72, 0, none⟩)), (54, .slice a5 (p1).length c6), (55, .int .i64 s947.2.2.2.2)] (by kernel_rfl) ?_
        obtain ⟨x1094, hx1095, ho1039⟩ := zn ho1039
        obtain ⟨g1097, o1098, c1099, cs1100, hv1096, hd1101, hl1102⟩ := RdN.formB (R := zkv) h1 hb hx1095
        obtain ⟨_, rfl, ⟨_, _, rfl, ⟨v1103, rfl, h1104⟩, ⟨v1105, rfl, h1106⟩⟩⟩ := hd1101
        have h1104 : Rd _ _ _ _ _ x1094.M.Ms := h1104
        have h1104b := h1104.bor hb
        have h1106 : Rd _ _ _ _ _ x1094.M.Co := h1106
        have h1106b := h1106.bor hb
        obtain ⟨l1107, a1108, c1109, rfl⟩ := h1104b.len
        obtain ⟨l1110, a1111, c1112, rfl⟩ := h1106b.len
        refine OW.idx 42 15 rfl rfl rfl rfl hv1096 rfl (qS hx1095).1 (qS hx1095).2.1 (by kernel_rfl) (by kernel_rfl) ?_
        refine OW.ldN (cs := [.int .i64 x1094.Ki, .int .i64 x1094.Hook, .int .i64 x1094.Version, .int .i64 x1094.Prog, .int .i64 x1094.Q.N, .int .u64 x1094.Q.Ev.A, .int .u64 x1094.Q.Ev.B, .slice a1108 (x1094.M.Ms).length c1109, .slice a1111 (x1094.M.Co).length c1112, .int .i64 x1094.Res.E, .bool x1094.Res.Found, .int .u64 x1094.Res.Val, .bool x1094.Res.Out, .int .u64 x1094.Res.OutKey, .int .u64 x1094.Res.OutVal]) rfl rfl rfl rfl (by kernel_rfl) (by kernel_rfl) (fun q u hu => hl1102 q u hu _ _ hst) ?_
        obtain ⟨r1113, hr1114, ho1039⟩ := zn ho1039
        refine OW.fn rfl rfl rfl rfl (by kernel_rfl) (zaU _ wb Sb fu (.pointer (some ⟨b44, 0, none⟩)) S949 s947.2.1 (.pointer (some ⟨b72, 0, none⟩)) S951 s947.2.2.2.1 (.slice a1108 (x1094.M.Ms).length c1109) (.slice a1111 (x1094.M.Co).length c1112) x1094 r1113 hr1114 (hst.part [1, 3] rfl) (hb.on hst [1, 3]) h1104 h1106 (hT0.give hst [1, 3]) (hT1.give hst [1, 3])) ?_
        rintro e w1115 ⟨S1117, S1118, rfl, hst1116⟩
        refine ⟨_, rfl, ?_⟩
        have hst := hst.join (idx := [1, 3]) (rest := [0, 2]) rfl hst1116
        refine OW.pure 3 [(61, .bool (!r1113.1))] (by kernel_rfl) ?_
        refine OW.nil rfl ?_
        obtain rfl := Option.some.inj ho1039
        exact QW.meet (fun a ha => ⟨S948, S1117, S950, S1118, ha.agrees (by kernel_rfl), hst.keep [2, 0, 3, 1] rfl⟩)
       ·have ho1039 := zaT ho1039 hc1093
        refine OW.pure 10 [(61, .bool false)] (by kernel_rfl) ?_
        refine OW.nil rfl ?_
        obtain rfl := Option.some.inj ho1039
        exact QW.meet (fun a ha => ⟨S948, S949, S950, S951, ha.agrees (by kernel_rfl), hst.keep [0, 1, 2, 3] rfl⟩)
     ·rintro a w1 ⟨S1034, S1035, S1036, S1037, ha, hst⟩
      refine CW.go ?_ ha
      rcases zft (o1038.2.2.2.2) with hc1119 | hc1119
      ·have hl946 := zaS hl946 hc1119
       refine CW.cond_t rfl hc1119 ?_
       refine CW.seq ?_
       refine CW.region ?_
       refine OW.pure 1 [(4, .bool false)] (by kernel_rfl) ?_
       refine OW.nil rfl ?_
       refine QW.next ?_
       refine CW.ret ?_
       refine QW.block_ret ?_
       refine QW.then_ret ?_
       refine QW.then_ret ?_
       refine QW.block_ret ?_
       refine QW.then_ret ?_
       obtain rfl := Option.some.inj hl946
       obtain rfl := Option.some.inj hF
       refine QW.ret1 rfl rfl ?_
       exact ⟨rfl, hst.keep [] rfl⟩
      ·have hl946 := zaT hl946 hc1119
       refine CW.cond_f rfl hc1119 ?_
       refine CW.skip ?_
       refine QW.block_normal ?_
       refine QW.next ?_
       refine CW.region ?_
       refine OW.pure 3 [(9, .int .i64 (w64 (s947.2.2.2.2 + 1)))] (by kernel_rfl) ?_
       refine OW.nil rfl ?_
       exact QW.meet (fun a ha => ⟨n945, zls _, (o1038.1, o1038.2.1, o1038.2.2.1, o1038.2.2.2.1, w64 (s947.2.2.2.2 + 1)), S1034, S1035, S1036, S1037, ha.agrees (by kernel_rfl), hst.keep [0, 1, 2, 3] rfl, hl946⟩)
    ·have hl946 := zaT hl946 hc954
     refine CW.cond_f rfl hc954 ?_
     refine CW.exit ?_
     refine QW.then_exit ?_
     refine QW.then_exit ?_
     refine QW.block_here ?_
     obtain rfl := Option.some.inj hl946
     exact QW.meet (fun a ha => ⟨(s947.1, s947.2.1, s947.2.2.1, s947.2.2.2.1), S948, S949, S950, S951, rfl, ha.agrees (by kernel_rfl), hst.keep [0, 1, 2, 3] rfl⟩)
  ·rintro a w1 ⟨t599, S593, S594, S595, S596, rfl, ha, hst⟩
   refine CW.go ?_ ha
   refine CW.seq ?_
   obtain ⟨o1139, ho1140, hF⟩ := zn hF
   refine CW.cutK (fun a w1 => Rep 70 [(4, .bool o1139)] a /\ St w (fp []) w1 []) ?_ ?_
   ·refine CW.region ?_
    refine OW.pure 2 [(62, .pointer (some ⟨b37, 0, none⟩)), (63, .pointer (some ⟨b65, 0, none⟩))] (by kernel_rfl) ?_
    obtain ⟨r1141, hr1142, ho1140⟩ := zn ho1140
    refine OW.fn rfl rfl rfl rfl (by kernel_rfl) (zb6 _ wb Sb fu (.pointer (some ⟨b37, 0, none⟩)) S593 t599.1 (.pointer (some ⟨b65, 0, none⟩)) S595 t599.2.2.1 r1141 hr1142 (hst.part [0, 2] rfl) (hb.on hst [0, 2])) ?_
    rintro e w1143 ⟨S1145, S1146, rfl, hst1144⟩
    refine ⟨_, rfl, ?_⟩
    have hst := hst.join (idx := [0, 2]) (rest := [1, 3]) rfl hst1144
    refine OW.pure 1 [(65, .bool r1141)] (by kernel_rfl) ?_
    refine OW.split 65 rfl (fun hc1147 => ?_) (fun hc1147 => ?_)
    ·have ho1140 := zaS ho1140 hc1147
     refine OW.pure 2 [(66, .pointer (some ⟨b44, 0, none⟩)), (67, .pointer (some ⟨b72, 0, none⟩))] (by kernel_rfl) ?_
     obtain ⟨r1148, hr1149, ho1140⟩ := zn ho1140
     refine OW.fn rfl rfl rfl rfl (by kernel_rfl) (zb6 _ wb Sb fu (.pointer (some ⟨b44, 0, none⟩)) S594 t599.2.1 (.pointer (some ⟨b72, 0, none⟩)) S596 t599.2.2.2 r1148 hr1149 (hst.part [2, 3] rfl) (hb.on hst [2, 3])) ?_
     rintro e w1150 ⟨S1152, S1153, rfl, hst1151⟩
     refine ⟨_, rfl, ?_⟩
     have hst := hst.join (idx := [2, 3]) (rest := [0, 1]) rfl hst1151
     refine OW.pure 2 [(4, .bool r1148)] (by kernel_rfl) ?_
     refine OW.nil rfl ?_
     obtain rfl := Option.some.inj ho1140
     exact QW.meet (fun a ha => ⟨ha.agrees (by kernel_rfl), hst.keep [] rfl⟩)
    ·have ho1140 := zaT ho1140 hc1147
     refine OW.pure 5 [(4, .bool false)] (by kernel_rfl) ?_
     refine OW.nil rfl ?_
     obtain rfl := Option.some.inj ho1140
     exact QW.meet (fun a ha => ⟨ha.agrees (by kernel_rfl), hst.keep [] rfl⟩)
   ·rintro a w1 ⟨ha, hst⟩
    refine CW.go ?_ ha
    refine CW.ret ?_
    obtain rfl := Option.some.inj hF
    refine QW.ret1 rfl rfl ?_
    exact ⟨rfl, hst.keep [] rfl⟩
end Go.Proofs.YtbmknhpfkpmigaaGreatDoor

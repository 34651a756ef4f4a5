/- Written by a program (wip/gen): the walks: each Go function returns what its plain function computes. -/
import Derived.Test.YtbhbegbnmndhdaaProg
import Derived.Test.YtbhbegbnmndhdaaF1
import Derived.Test.YtbhbegbnmndhdaaRange
import Derived.Test.YtbhbegbnmndhdaaExt
import Derived.Test.YtbhbegbnmndhdaaSh
import Derived.Test.YtbhbegbnmndhdaaO1
namespace Go.Proofs.Ytbhbegbnmndhdaa
open Go.Sx
set_option linter.unusedVariables false

theorem el3 : Elem Try.prog 3 1 8 := Elem.of (i := Try.t3) (by kernel_rfl) (by kernel_rfl) (by kernel_rfl) (by kernel_rfl) (by kernel_rfl) (by decide) (by decide)

set_option maxRecDepth 10000 in
theorem refs_New_ok (w : World) (p0 : Int) (r : (Option refs_Refs) × Int) (hF : refs_New p0 = some r)
    (hst : St w (fp []) w []) :
    Calls Try.prog 6 [.int .i64 p0].toArray w (fun e w' => (∃ (k0 : refs_Refs) (y0 : Value) (z0 : List Nat), r.1 = some k0 ∧ e = .returned (.tuple #[y0, .int .i64 r.2]) ∧ St w (fp []) w' [itI R_t24 [y0] z0 k0]) ∨ (r.1 = none ∧ e = .returned (.tuple #[.pointer none, .int .i64 r.2]) ∧ St w (fp []) w' [])) := by
  refine CW.start (N := 14) Try.func6 rfl rfl rfl ?_
  refine CW.seq ?_
  refine CW.region ?_
  refine OW.pure 2 [] (by kernel_rfl) ?_
  refine OW.nil rfl ?_
  refine QW.next ?_
  refine CW.seq ?_
  refine CW.seq ?_
  refine CW.cutK (fun a w1 => Rep 14 [(0, .int .i64 p0), (9, .bool (decide (p0 < 0) || decide (p0 > 4)))] a ∧ St w (fp []) w1 []) ?_ ?_
  · refine CW.region ?_
    refine OW.pure 3 [(6, .bool (decide (p0 < 0)))] (by kernel_rfl) ?_
    refine OW.split 6 rfl (fun hc1 => ?_) (fun hc1 => ?_)
    · refine OW.pure 3 [(9, .bool true)] (by kernel_rfl) ?_
      refine OW.nil rfl ?_
      refine QW.say 9 (v := .bool (decide (p0 < 0) || decide (p0 > 4))) rfl (by first | (rw [hc1]; done) | (rw [hc1]; rfl) | simp [hc1]) ?_
      exact QW.meet (fun a ha => ⟨ha.agrees (by kernel_rfl), hst.keep [] rfl⟩)
    · refine OW.pure 3 [(9, .bool (decide (p0 > 4)))] (by kernel_rfl) ?_
      refine OW.nil rfl ?_
      refine QW.say 9 (v := .bool (decide (p0 < 0) || decide (p0 > 4))) rfl (by first | (rw [hc1]; done) | (rw [hc1]; rfl) | simp [hc1]) ?_
      exact QW.meet (fun a ha => ⟨ha.agrees (by kernel_rfl), hst.keep [] rfl⟩)
  · rintro a w1 ⟨ha, hst⟩
    refine CW.go ?_ ha
    rcases Bool.eq_false_or_eq_true ((decide (p0 < 0) || decide (p0 > 4))) with hc2 | hc2
    · have hF := ite_t hF hc2
      refine CW.cond_t rfl hc2 ?_
      refine CW.seq ?_
      refine CW.region ?_
      refine OW.pure 2 [(2, .pointer none), (3, .int .i64 2)] (by kernel_rfl) ?_
      refine OW.nil rfl ?_
      refine QW.next ?_
      refine CW.ret ?_
      refine QW.then_ret ?_
      obtain rfl := Option.some.inj hF
      refine QW.ret2 rfl rfl rfl ?_
      exact .inr ⟨rfl, rfl, hst.keep [] rfl⟩
    · have hF := ite_f hF hc2
      refine CW.cond_f rfl hc2 ?_
      refine CW.skip ?_
      refine QW.next ?_
      refine CW.seq ?_
      refine CW.region ?_
      refine OW.pure 1 [(10, .int .i64 p0)] (by kernel_rfl) ?_
      refine OW.mnewN R_t28 hst rfl rfl rfl ?_
      intro r7 w8 hst
      refine OW.pure 1 [(12, .agg [.int .i64 p0, .map (some r7)].toArray)] (by kernel_rfl) ?_
      refine OW.box hst rfl rfl rfl rfl [.int .i64 p0, .map (some r7)] rfl ?_
      intro b9 w10 hst
      refine OW.pure 2 [(2, .pointer (some ⟨b9, 0, none⟩)), (3, .int .i64 0)] (by kernel_rfl) ?_
      refine OW.nil rfl ?_
      refine QW.next ?_
      refine CW.ret ?_
      have hst := hst.ofMN 0 rfl
      obtain ⟨S11, hst⟩ := hst.shutP1 R_t43 rfl 1 0 [] rfl rfl rfl (refs_Refs.mk p0 ([] : List (Int × (List Int)))) rfl rfl
      obtain rfl := Option.some.inj hF
      refine QW.ret2 rfl rfl rfl ?_
      exact .inl ⟨_, (.pointer (some ⟨b9, 0, none⟩)), S11, rfl, rfl, hst.keep [0] rfl⟩

set_option maxRecDepth 10000 in
theorem slices_Index_int_int_ok (w : World) (v0 : Value) (p0 : List Int) (p1 : Int) (r : Int) (hF : slices_Index_int_int p0 p1 = some r)
    (hst : St w (fp []) w []) (h0 : Rd w (fp []) v0 (encInt .i64) 1 p0) :
    Calls Try.prog 16 [v0, .int .i64 p1].toArray w (fun e w' => e = .returned (.int .i64 r) ∧ St w (fp []) w' []) := by
  refine CW.start (N := 19) Try.func16 rfl rfl rfl ?_
  obtain ⟨l1, a2, c3, rfl⟩ := h0.len
  refine CW.seq ?_
  refine CW.region ?_
  refine OW.pure 1 [] (by kernel_rfl) ?_
  refine OW.nil rfl ?_
  refine QW.next ?_
  refine CW.seq ?_
  refine CW.seq ?_
  refine CW.region ?_
  refine OW.pure 3 [(7, .int .i64 (((p0).length) : Int)), (8, .int .i64 0)] (by kernel_rfl) ?_
  refine OW.nil rfl ?_
  refine QW.next ?_
  obtain ⟨o52, ho53, hF⟩ := bind_some' hF
  refine CW.cutK (fun a w1 => ∃ (t54 : Unit), o52 = .inl t54 ∧ Rep 19 [] a ∧ St w (fp []) w1 []) ?_ ?_
  · refine CW.block ?_
    refine CW.loop (fun n a w1 => ∃ (i87 : Nat) (s86 : Unit), i87 + n = (p0).length ∧ Rep 19 [(0, .slice a2 (p0).length c3), (1, .int .i64 p1), (7, .int .i64 (((p0).length) : Int)), (8, .int .i64 (i87 : Int))] a ∧ St w (fp []) w1 [] ∧ forN (slices_Index_int_int_l1 p0 p1) (fun (s86 : Unit) => (.inl ())) n i87 s86 = some o52) ((p0).length) (fun a ha => ⟨0, (), Nat.zero_add _, ha.agrees (by kernel_rfl), hst.keep [] rfl, ho53⟩) ?_
    rintro n84 a w1 ⟨i87, s86, hi88, ha, hst, hl85⟩
    refine CW.go ?_ ha
    refine CW.seq ?_
    refine CW.region ?_
    refine OW.pure 1 [(9, .bool (decide ((i87 : Int) < (((p0).length) : Int))))] (by kernel_rfl) ?_
    refine OW.nil rfl ?_
    refine QW.next ?_
    refine CW.seq ?_
    rcases Bool.eq_false_or_eq_true (decide ((i87 : Int) < (((p0).length) : Int))) with hc89 | hc89
    · rcases n84 with _ | n84
      · exact (cnt0 hi88 hc89).elim
      refine CW.cond_t rfl hc89 ?_
      refine CW.skip ?_
      refine QW.next ?_
      refine CW.seq ?_
      refine CW.block ?_
      refine CW.seq ?_
      refine CW.region ?_
      refine OW.pure 2 [(5, .int .i64 (i87 : Int))] (by kernel_rfl) ?_
      refine OW.nil rfl ?_
      refine QW.next ?_
      refine CW.seq ?_
      refine CW.region ?_
      refine OW.pure 3 [(11, .int .i64 p1), (12, .slice a2 (p0).length c3), (13, .int .i64 (i87 : Int))] (by kernel_rfl) ?_
      obtain ⟨x96, hx97, hl85⟩ := bind_some' hl85
      obtain ⟨g99, o100, c101, hv98⟩ := h0.formv (fun _ => ⟨_, rfl⟩) hx97
      refine OW.idx 3 1 rfl rfl rfl rfl hv98 rfl (idx_some hx97).1 (idx_some hx97).2.1 (by kernel_rfl) (by kernel_rfl) ?_
      refine OW.ld rfl rfl rfl rfl (by kernel_rfl) (h0.cellv hst hx97 hv98 0 _ rfl) ?_
      refine OW.pure 1 [(16, .bool (p1 == x96))] (by kernel_rfl) ?_
      refine OW.nil rfl ?_
      refine QW.next ?_
      rcases Bool.eq_false_or_eq_true ((p1 == x96)) with hc102 | hc102
      · have hl85 := ite_t hl85 hc102
        refine CW.cond_t rfl hc102 ?_
        refine CW.seq ?_
        refine CW.region ?_
        refine OW.pure 2 [(4, .int .i64 (i87 : Int))] (by kernel_rfl) ?_
        refine OW.nil rfl ?_
        refine QW.next ?_
        refine CW.ret ?_
        refine QW.block_ret ?_
        refine QW.then_ret ?_
        refine QW.then_ret ?_
        refine QW.block_ret ?_
        refine QW.then_ret ?_
        obtain rfl := Option.some.inj hl85
        obtain rfl := Option.some.inj hF
        refine QW.ret1 rfl rfl ?_
        exact ⟨rfl, hst.keep [] rfl⟩
      · have hl85 := ite_f hl85 hc102
        refine CW.cond_f rfl hc102 ?_
        refine CW.skip ?_
        refine QW.block_normal ?_
        refine QW.next ?_
        refine CW.region ?_
        refine OW.pure 2 [(8, .int .i64 (w64 ((i87 : Int) + 1)))] (by kernel_rfl) ?_
        refine OW.nil rfl ?_
        refine QW.say 8 rfl (congrArg (Value.int .i64) (w64_cnt hc89 l1)) ?_
        exact QW.meet (fun a ha => ⟨n84, Nat.lt_succ_self _, i87 + 1, (), cnt_next hi88, ha.agrees (by kernel_rfl), hst.keep [] rfl, hl85⟩)
    · rcases n84 with _ | n84
      · refine CW.cond_f rfl hc89 ?_
        refine CW.exit ?_
        refine QW.then_exit ?_
        refine QW.then_exit ?_
        refine QW.block_here ?_
        obtain rfl := Option.some.inj hl85
        exact QW.meet (fun a ha => ⟨(), rfl, ha.agrees (by kernel_rfl), hst.keep [] rfl⟩)
      · exact (cnt1 hi88 hc89).elim
  · rintro a w1 ⟨t54, rfl, ha, hst⟩
    refine CW.go ?_ ha
    refine CW.seq ?_
    refine CW.region ?_
    refine OW.pure 1 [(4, .int .i64 (-1))] (by kernel_rfl) ?_
    refine OW.nil rfl ?_
    refine QW.next ?_
    refine CW.ret ?_
    obtain rfl := Option.some.inj hF
    refine QW.ret1 rfl rfl ?_
    exact ⟨rfl, hst.keep [] rfl⟩

set_option maxRecDepth 10000 in
theorem slices_Contains_int_int_ok (w : World) (v0 : Value) (p0 : List Int) (p1 : Int) (r : Bool) (hF : slices_Contains_int_int p0 p1 = some r)
    (hst : St w (fp []) w []) (h0 : Rd w (fp []) v0 (encInt .i64) 1 p0) :
    Calls Try.prog 13 [v0, .int .i64 p1].toArray w (fun e w' => e = .returned (.bool r) ∧ St w (fp []) w' []) := by
  refine CW.start (N := 9) Try.func13 rfl rfl rfl ?_
  obtain ⟨l1, a2, c3, rfl⟩ := h0.len
  refine CW.seq ?_
  refine CW.region ?_
  refine OW.pure 1 [] (by kernel_rfl) ?_
  refine OW.nil rfl ?_
  refine QW.next ?_
  refine CW.seq ?_
  refine CW.region ?_
  refine OW.pure 2 [(5, .slice a2 (p0).length c3), (6, .int .i64 p1)] (by kernel_rfl) ?_
  obtain ⟨r8, hr9, hF⟩ := bind_some' hF
  refine OW.fn rfl rfl rfl rfl (by kernel_rfl) (slices_Index_int_int_ok _ (.slice a2 (p0).length c3) p0 p1 r8 hr9 (hst.part [] rfl) (h0.give hst [])) ?_
  rintro e w10 ⟨rfl, hst11⟩
  refine ⟨_, rfl, ?_⟩
  have hst := hst.join (idx := []) (rest := []) rfl hst11
  refine OW.pure 2 [(4, .bool (decide (r8 ≥ 0)))] (by kernel_rfl) ?_
  refine OW.nil rfl ?_
  refine QW.next ?_
  refine CW.ret ?_
  obtain rfl := Option.some.inj hF
  refine QW.ret1 rfl rfl ?_
  exact ⟨rfl, hst.keep [] rfl⟩

set_option maxRecDepth 10000 in
theorem slices_Clone_int_int_ok (w : World) (v0 : Value) (p0 : List Int) (r : (List Int)) (hF : slices_Clone_int_int p0 = some r)
    (hst : St w (fp []) w []) (h0 : Rd w (fp []) v0 (encInt .i64) 1 p0) :
    Calls Try.prog 14 [v0].toArray w (fun e w' => ∃ (x0 : Value), e = .returned (x0) ∧ St w (fp []) w' [rowI x0 3 (encInt .i64) 1 r]) := by
  refine CW.start (N := 8) Try.func14 rfl rfl rfl ?_
  obtain ⟨l1, a2, c3, rfl⟩ := h0.len
  refine CW.seq ?_
  refine CW.region ?_
  refine OW.pure 1 [] (by kernel_rfl) ?_
  refine OW.nil rfl ?_
  refine QW.next ?_
  refine CW.seq ?_
  refine CW.seq ?_
  refine CW.region ?_
  refine OW.pure 1 [(3, .slice a2 (p0).length c3)] (by kernel_rfl) ?_
  refine OW.op (v := .bool ((a2).isNone)) rfl rfl rfl rfl (fun a ha => snil_run (e := 3) rfl rfl rfl (by kernel_rfl) a _ ha) ?_
  refine OW.nil rfl ?_
  refine QW.next ?_
  rcases Bool.eq_false_or_eq_true ((a2).isNone) with hc4 | hc4
  · have hn5 := h0.isnil (fun _ => ⟨_, rfl⟩) hc4
    have hF : some ([] : List Int) = some r := by rw [hn5] at hF; exact hF
    refine CW.cond_t rfl hc4 ?_
    refine CW.seq ?_
    refine CW.region ?_
    refine OW.pure 1 [(2, .slice none 0 0)] (by kernel_rfl) ?_
    refine OW.nil rfl ?_
    refine QW.next ?_
    refine CW.ret ?_
    refine QW.then_ret ?_
    have hst := hst.nilRow Int 3 (encInt .i64) 1
    obtain rfl := Option.some.inj hF
    refine QW.ret1 rfl rfl ?_
    exact ⟨(.slice none 0 0), rfl, hst.keep [0] rfl⟩
  · refine CW.cond_f rfl hc4 ?_
    refine CW.skip ?_
    refine QW.next ?_
    refine CW.seq ?_
    refine CW.region ?_
    refine OW.row (α := Int) (e := 3) (enc := encInt .i64) (sz := 1) hst rfl rfl rfl [] rfl (fun _ => rfl) rfl rfl (fun _ => by kernel_rfl) ?_
    intro g15 w16 hst
    refine OW.pure 1 [(6, .slice a2 (p0).length c3)] (by kernel_rfl) ?_
    obtain ⟨u17, hr18, hF⟩ := bind_some' hF
    refine OW.app hst 0 rfl (fun _ => rfl) (fun _ => rfl) rfl rfl rfl rfl rfl rfl (by kernel_rfl) el3 (h0.on hst) (room_le hr18) ?_
    intro v19 w20 hst
    obtain ⟨l21, a22, c23, rfl⟩ := hst.len 0 rfl
    refine OW.pure 1 [(2, .slice a22 ((([] : List Int) ++ p0)).length c23)] (by kernel_rfl) ?_
    refine OW.nil rfl ?_
    refine QW.next ?_
    refine CW.ret ?_
    obtain rfl := Option.some.inj hF
    refine QW.ret1 rfl rfl ?_
    exact ⟨(.slice a22 ((([] : List Int) ++ p0)).length c23), rfl, hst.keep [0] rfl⟩

set_option maxRecDepth 10000 in
theorem refs_Refs_Hold_ok (w : World) (v0 : Value) (S0 : List Nat) (p0 : refs_Refs) (p1 : Int) (v2 : Value) (p2 : List Int) (r : Int × refs_Refs) (hF : refs_Refs_Hold p0 p1 p2 = some r)
    (hst : St w (fp [itI R_t24 [v0] S0 p0]) w [itI R_t24 [v0] S0 p0]) (h2 : Rd w (fp [itI R_t24 [v0] S0 p0]) v2 (encInt .i64) 1 p2) :
    Calls Try.prog 7 [v0, .int .i64 p1, v2].toArray w (fun e w' => ∃ (s0 : List Nat), e = .returned (.int .i64 r.1) ∧ St w (fp [itI R_t24 [v0] S0 p0]) w' [itI R_t24 [v0] s0 r.2]) := by
  refine CW.start (N := 53) Try.func7 rfl rfl rfl ?_
  obtain ⟨l1, a2, c3, rfl⟩ := h2.len
  obtain ⟨b4, rfl⟩ := hst.fptr 0 rfl
  refine CW.seq ?_
  refine CW.region ?_
  refine OW.pure 1 [] (by kernel_rfl) ?_
  refine OW.nil rfl ?_
  refine QW.next ?_
  refine CW.seq ?_
  refine CW.seq ?_
  refine CW.region ?_
  refine OW.pure 3 [(11, .slice a2 (p2).length c3), (12, .int .i64 (((p2).length) : Int)), (13, .int .i64 0)] (by kernel_rfl) ?_
  refine OW.nil rfl ?_
  refine QW.next ?_
  obtain ⟨o147, ho148, hF⟩ := bind_some' hF
  refine CW.cutK (fun a w1 => ∃ (t149 : Unit) (S146 : List Nat), o147 = .inl t149 ∧ Rep 53 [(0, .pointer (some ⟨b4, 0, none⟩)), (1, .int .i64 p1), (2, .slice a2 (p2).length c3)] a ∧ St w (fp [itI R_t24 [.pointer (some ⟨b4, 0, none⟩)] S0 p0]) w1 [itI R_t24 [.pointer (some ⟨b4, 0, none⟩)] S146 p0]) ?_ ?_
  · refine CW.block ?_
    refine CW.loop (fun n a w1 => ∃ (i245 : Nat) (s243 : Unit) (S244 : List Nat), i245 + n = (p2).length ∧ Rep 53 [(0, .pointer (some ⟨b4, 0, none⟩)), (1, .int .i64 p1), (2, .slice a2 (p2).length c3), (11, .slice a2 (p2).length c3), (12, .int .i64 (((p2).length) : Int)), (13, .int .i64 (i245 : Int))] a ∧ St w (fp [itI R_t24 [.pointer (some ⟨b4, 0, none⟩)] S0 p0]) w1 [itI R_t24 [.pointer (some ⟨b4, 0, none⟩)] S244 p0] ∧ forN (refs_Refs_Hold_l1 p0 p2) (fun (s243 : Unit) => (.inl ())) n i245 s243 = some o147) ((p2).length) (fun a ha => ⟨0, (), S0, Nat.zero_add _, ha.agrees (by kernel_rfl), hst.keep [0] rfl, ho148⟩) ?_
    rintro n241 a w1 ⟨i245, s243, S244, hi246, ha, hst, hl242⟩
    refine CW.go ?_ ha
    refine CW.seq ?_
    refine CW.region ?_
    refine OW.pure 1 [(14, .bool (decide ((i245 : Int) < (((p2).length) : Int))))] (by kernel_rfl) ?_
    refine OW.nil rfl ?_
    refine QW.next ?_
    refine CW.seq ?_
    rcases Bool.eq_false_or_eq_true (decide ((i245 : Int) < (((p2).length) : Int))) with hc247 | hc247
    · rcases n241 with _ | n241
      · exact (cnt0 hi246 hc247).elim
      refine CW.cond_t rfl hc247 ?_
      refine CW.skip ?_
      refine QW.next ?_
      refine CW.seq ?_
      refine CW.block ?_
      refine CW.seq ?_
      refine CW.region ?_
      refine OW.pure 1 [(15, .int .i64 (i245 : Int))] (by kernel_rfl) ?_
      obtain ⟨x254, hx255, hl242⟩ := bind_some' hl242
      obtain ⟨g257, o258, c259, hv256⟩ := h2.formv (fun _ => ⟨_, rfl⟩) hx255
      refine OW.idx 3 1 rfl rfl rfl rfl hv256 rfl (idx_some hx255).1 (idx_some hx255).2.1 (by kernel_rfl) (by kernel_rfl) ?_
      refine OW.ld rfl rfl rfl rfl (by kernel_rfl) (h2.cellv hst hx255 hv256 0 _ rfl) ?_
      refine OW.pure 2 [(7, .int .i64 (i245 : Int)), (8, .int .i64 x254)] (by kernel_rfl) ?_
      refine OW.nil rfl ?_
      refine QW.next ?_
      refine CW.seq ?_
      obtain ⟨v260, S261, hst⟩ := hst.openQ1 0 rfl rfl
      obtain ⟨r262, rfl, hst⟩ := hst.toMN1 1 rfl
      have hst : St _ _ _ [blkI b4 43 [.int .i64 p0.maps, .map (some r262)], _] := hst
      obtain ⟨o276, ho277, hl242⟩ := bind_some' hl242
      refine CW.cutK (fun a w1 => ∃ (S275 : List Nat), Rep 53 [(0, .pointer (some ⟨b4, 0, none⟩)), (1, .int .i64 p1), (2, .slice a2 (p2).length c3), (11, .slice a2 (p2).length c3), (12, .int .i64 (((p2).length) : Int)), (13, .int .i64 (i245 : Int)), (34, .bool o276)] a ∧ St w (fp [itI R_t24 [.pointer (some ⟨b4, 0, none⟩)] S0 p0]) w1 [itI R_t24 [.pointer (some ⟨b4, 0, none⟩)] S275 p0]) ?_ ?_
      · refine CW.region ?_
        refine OW.pure 3 [(20, .bool (decide (x254 < 0)))] (by kernel_rfl) ?_
        refine OW.split 20 rfl (fun hc278 => ?_) (fun hc278 => ?_)
        · have ho277 := ite_t ho277 hc278
          refine OW.pure 14 [(34, .bool true)] (by kernel_rfl) ?_
          refine OW.nil rfl ?_
          have hst := hst.ofMN 1 rfl
          obtain ⟨S279, hst⟩ := hst.shutP1 R_t43 rfl 0 1 [] rfl rfl rfl p0 rfl rfl
          obtain rfl := Option.some.inj ho277
          exact QW.meet (fun a ha => ⟨S279, ha.agrees (by kernel_rfl), hst.keep [0] rfl⟩)
        · have ho277 := ite_f ho277 hc278
          refine OW.pure 4 [(21, .int .i64 x254), (24, .pointer (some ⟨b4, 0, none⟩))] (by kernel_rfl) ?_
          refine OW.ld rfl rfl rfl rfl (by kernel_rfl) (hst.blk 0 rfl rfl) ?_
          refine OW.pure 3 [(28, .bool (decide (x254 ≥ p0.maps)))] (by kernel_rfl) ?_
          refine OW.split 28 rfl (fun hc280 => ?_) (fun hc280 => ?_)
          · have ho277 := ite_t ho277 hc280
            refine OW.pure 6 [(34, .bool true)] (by kernel_rfl) ?_
            refine OW.nil rfl ?_
            have hst := hst.ofMN 1 rfl
            obtain ⟨S281, hst⟩ := hst.shutP1 R_t43 rfl 0 1 [] rfl rfl rfl p0 rfl rfl
            obtain rfl := Option.some.inj ho277
            exact QW.meet (fun a ha => ⟨S281, ha.agrees (by kernel_rfl), hst.keep [0] rfl⟩)
          · have ho277 := ite_f ho277 hc280
            refine OW.pure 2 [(29, .slice a2 (p2).length c3), (30, .int .i64 (i245 : Int))] (by kernel_rfl) ?_
            obtain ⟨ys282, hcut283, ho277⟩ := bind_some' ho277
            refine OW.op (v := .slice a2 (ys282).length c3) rfl rfl rfl rfl (fun a ha => pre_run (e := 3) 1 rfl rfl rfl hcut283 h2.cap (by kernel_rfl) (by kernel_rfl) a _ ha) ?_
            have hp284 := h2.pre hcut283
            refine OW.pure 1 [(32, .int .i64 x254)] (by kernel_rfl) ?_
            obtain ⟨r285, hr286, ho277⟩ := bind_some' ho277
            refine OW.fn rfl rfl rfl rfl (by kernel_rfl) (slices_Contains_int_int_ok _ (.slice a2 (ys282).length c3) ys282 x254 r285 hr286 (hst.part [] rfl) (hp284.give hst [])) ?_
            rintro e w287 ⟨rfl, hst288⟩
            refine ⟨_, rfl, ?_⟩
            have hst := hst.join (idx := []) (rest := [0, 1]) rfl hst288
            refine OW.pure 1 [(34, .bool r285)] (by kernel_rfl) ?_
            refine OW.nil rfl ?_
            have hst := hst.ofMN 1 rfl
            obtain ⟨S289, hst⟩ := hst.shutP1 R_t43 rfl 0 1 [] rfl rfl rfl p0 rfl rfl
            obtain rfl := Option.some.inj ho277
            exact QW.meet (fun a ha => ⟨S289, ha.agrees (by kernel_rfl), hst.keep [0] rfl⟩)
      · rintro a w1 ⟨S275, ha, hst⟩
        refine CW.go ?_ ha
        rcases Bool.eq_false_or_eq_true (o276) with hc290 | hc290
        · have hl242 := ite_t hl242 hc290
          refine CW.cond_t rfl hc290 ?_
          refine CW.seq ?_
          refine CW.region ?_
          refine OW.pure 1 [(6, .int .i64 2)] (by kernel_rfl) ?_
          refine OW.nil rfl ?_
          refine QW.next ?_
          refine CW.ret ?_
          refine QW.block_ret ?_
          refine QW.then_ret ?_
          refine QW.then_ret ?_
          refine QW.block_ret ?_
          refine QW.then_ret ?_
          obtain rfl := Option.some.inj hl242
          obtain rfl := Option.some.inj hF
          refine QW.ret1 rfl rfl ?_
          exact ⟨S275, rfl, hst.keep [0] rfl⟩
        · have hl242 := ite_f hl242 hc290
          refine CW.cond_f rfl hc290 ?_
          refine CW.skip ?_
          refine QW.block_normal ?_
          refine QW.next ?_
          refine CW.region ?_
          refine OW.pure 2 [(13, .int .i64 (w64 ((i245 : Int) + 1)))] (by kernel_rfl) ?_
          refine OW.nil rfl ?_
          refine QW.say 13 rfl (congrArg (Value.int .i64) (w64_cnt hc247 l1)) ?_
          exact QW.meet (fun a ha => ⟨n241, Nat.lt_succ_self _, i245 + 1, (), S275, cnt_next hi246, ha.agrees (by kernel_rfl), hst.keep [0] rfl, hl242⟩)
    · rcases n241 with _ | n241
      · refine CW.cond_f rfl hc247 ?_
        refine CW.exit ?_
        refine QW.then_exit ?_
        refine QW.then_exit ?_
        refine QW.block_here ?_
        obtain rfl := Option.some.inj hl242
        exact QW.meet (fun a ha => ⟨(), S244, rfl, ha.agrees (by kernel_rfl), hst.keep [0] rfl⟩)
      · exact (cnt1 hi246 hc247).elim
  · rintro a w1 ⟨t149, S146, rfl, ha, hst⟩
    refine CW.go ?_ ha
    refine CW.seq ?_
    refine CW.seq ?_
    obtain ⟨v291, S292, hst⟩ := hst.openQ1 0 rfl rfl
    obtain ⟨r293, rfl, hst⟩ := hst.toMN1 1 rfl
    have hst : St _ _ _ [blkI b4 43 [.int .i64 p0.maps, .map (some r293)], _] := hst
    refine CW.region ?_
    refine OW.pure 3 [(39, .pointer (some ⟨b4, 1, none⟩))] (by kernel_rfl) ?_
    refine OW.ld rfl rfl rfl rfl (by kernel_rfl) (hst.blk 0 rfl rfl) ?_
    refine OW.pure 1 [(41, .int .i64 p1)] (by kernel_rfl) ?_
    refine OW.mlook (tk := 3) (te := 28) (kd := .i64) R_t28 (fun o => o.getD []) hst 1 rfl rfl rfl rfl rfl rfl (by kernel_rfl) (by kernel_rfl) (.slice none 0 0) (by kernel_rfl) (fun w => ⟨_, rfl, rfl, Owns.nil w _ _ none⟩) (fun _ _ _ _ h => h) (fun _ _ _ _ h => h) ?_
    intro v300 S301 S302 hst
    have hst := hst.toRow1 2 rfl
    obtain ⟨l303, a304, c305, rfl⟩ := hst.len 2 rfl
    refine OW.pure 5 [(10, .bool ((mget p0.held p1).isSome))] (by kernel_rfl) ?_
    refine OW.nil rfl ?_
    refine QW.next ?_
    refine CW.seq ?_
    refine CW.region ?_
    refine OW.pure 1 [(45, .bool ((mget p0.held p1).isSome))] (by kernel_rfl) ?_
    refine OW.nil rfl ?_
    refine QW.next ?_
    rcases Bool.eq_false_or_eq_true ((mget p0.held p1).isSome) with hc306 | hc306
    · have hF := ite_t hF hc306
      refine CW.cond_t rfl hc306 ?_
      refine CW.seq ?_
      refine CW.region ?_
      refine OW.pure 1 [(6, .int .i64 42)] (by kernel_rfl) ?_
      refine OW.nil rfl ?_
      refine QW.next ?_
      refine CW.ret ?_
      refine QW.then_ret ?_
      have hst := hst.toIt 2 rfl (fun _ => rfl) (by decide)
      obtain ⟨S307, hst⟩ := hst.mback0 (f := (fun o => o.getD [])) 1 2 rfl rfl rfl (fun _ _ _ _ h => h)
      have hst := hst.keep [0, 1] rfl
      have hst := hst.ofMN 1 rfl
      obtain ⟨S308, hst⟩ := hst.shutP1 R_t43 rfl 0 1 [] rfl rfl rfl p0 rfl rfl
      obtain rfl := Option.some.inj hF
      refine QW.ret1 rfl rfl ?_
      exact ⟨S308, rfl, hst.keep [0] rfl⟩
    · have hF := ite_f hF hc306
      refine CW.cond_f rfl hc306 ?_
      refine CW.skip ?_
      refine QW.next ?_
      refine CW.seq ?_
      refine CW.plan (by kernel_rfl) ?_
      intro w321 hch322
      have hst := hst.same hch322
      refine OA.pure [0, 1, 2] [(48, .pointer (some ⟨b4, 1, none⟩))] (by kernel_rfl) ?_
      refine OA.ld (i := 3) rfl (by kernel_rfl) rfl rfl rfl (by kernel_rfl) (hst.blk 0 rfl rfl) ?_
      refine OA.pure [4, 5] [(50, .int .i64 p1), (51, .slice a2 (p2).length c3)] (by kernel_rfl) ?_
      refine OA.act (i := 6) [3] (by kernel_rfl) rfl rfl (by kernel_rfl) (by kernel_rfl) ?_
      obtain ⟨r323, hr324, hF⟩ := bind_some' hF
      refine OW.fn rfl rfl rfl rfl (by kernel_rfl) (slices_Clone_int_int_ok _ (.slice a2 (p2).length c3) p2 r323 hr324 (hst.part [] rfl) (h2.give hst [])) ?_
      rintro e w325 ⟨v327, rfl, hst326⟩
      refine ⟨_, rfl, ?_⟩
      have hst := hst.join (idx := []) (rest := [0, 1, 2]) rfl hst326
      obtain ⟨l328, a329, c330, rfl⟩ := hst.len 0 rfl
      refine OA.next ⟨(hst.blk 1 rfl rfl), trivial⟩ ?_
      refine OA.act (i := 7) [] (by kernel_rfl) rfl rfl (by kernel_rfl) (by kernel_rfl) ?_
      have hst := hst.keep [0, 1, 2] rfl
      have hst := hst.toIt 0 rfl (fun _ => rfl) (by decide)
      refine OW.mputN (tk := 3) (te := 28) (kd := .i64) hst 2 0 rfl rfl (fun _ _ e => by cases e; rfl) rfl rfl rfl rfl rfl rfl (by kernel_rfl) (by kernel_rfl) ?_
      intro S332 w331 hst
      have hst := hst.keep [1, 2] rfl
      refine OA.next trivial ?_
      refine OA.fin (by kernel_rfl) (by kernel_rfl) ?_
      refine QW.next ?_
      refine CW.seq ?_
      refine CW.region ?_
      refine OW.pure 1 [(6, .int .i64 0)] (by kernel_rfl) ?_
      refine OW.nil rfl ?_
      refine QW.next ?_
      refine CW.ret ?_
      have hst := hst.ofMN 1 rfl
      obtain ⟨S333, hst⟩ := hst.shutP1 R_t43 rfl 0 1 [] rfl rfl rfl (refs_Refs.mk p0.maps (mput p0.held p1 r323)) rfl rfl
      obtain rfl := Option.some.inj hF
      refine QW.ret1 rfl rfl ?_
      exact ⟨S333, rfl, hst.keep [0] rfl⟩

theorem slices_Sort_int_int_ok (w : World) (v0 : Value) (p0 : List Int) (r : List Int) (hF : slices_Sort_int_int p0 = some r) (hst : St w (fp [rowI v0 3 (encInt .i64) 1 p0]) w [rowI v0 3 (encInt .i64) 1 p0]) :
    Calls Try.prog 15 [v0].toArray w (fun e w' => e = .returned (.tuple #[]) ∧ St w (fp [rowI v0 3 (encInt .i64) 1 p0]) w' [rowI v0 3 (encInt .i64) 1 r]) :=
  sort_int_ok Try.slices_Sort_int Try.slices_Sort_int_none hF hst

set_option maxRecDepth 10000 in
theorem refs_Refs_Holders_ok (w : World) (v0 : Value) (S0 : List Nat) (p0 : refs_Refs) (p1 : Int) (r : (List Int)) (hF : refs_Refs_Holders p0 p1 = some r)
    (hst : St w (fp [itI R_t24 [v0] S0 p0]) w [itI R_t24 [v0] S0 p0]) :
    Calls Try.prog 10 [v0, .int .i64 p1].toArray w (fun e w' => ∃ (s0 : List Nat) (x0 : Value), e = .returned (x0) ∧ St w (fp [itI R_t24 [v0] S0 p0]) w' [itI R_t24 [v0] s0 p0, rowI x0 3 (encInt .i64) 1 r]) := by
  refine CW.start (N := 28) Try.func10 rfl rfl rfl ?_
  obtain ⟨b1, rfl⟩ := hst.fptr 0 rfl
  refine CW.seq ?_
  refine CW.region ?_
  refine OW.pure 1 [] (by kernel_rfl) ?_
  refine OW.nil rfl ?_
  refine QW.next ?_
  refine CW.seq ?_
  refine CW.region ?_
  refine OW.pure 1 [(5, .slice none 0 0)] (by kernel_rfl) ?_
  refine OW.nil rfl ?_
  refine QW.next ?_
  refine CW.seq ?_
  refine CW.seq ?_
  obtain ⟨v2, S3, hst⟩ := hst.openQ1 0 rfl rfl
  obtain ⟨r4, rfl, hst⟩ := hst.toMN1 1 rfl
  have hst : St _ _ _ [blkI b1 43 [.int .i64 p0.maps, .map (some r4)], _] := hst
  refine CW.region ?_
  refine OW.pure 3 [(10, .pointer (some ⟨b1, 1, none⟩))] (by kernel_rfl) ?_
  refine OW.ld rfl rfl rfl rfl (by kernel_rfl) (hst.blk 0 rfl rfl) ?_
  refine OW.range (tk := 3) (te := 28) hst 1 rfl rfl rfl rfl rfl (by kernel_rfl) ?_
  intro it7 w8 hst
  refine OW.nil rfl ?_
  refine QW.next ?_
  refine CW.block ?_
  have hst := hst.nilRow Int 3 (encInt .i64) 1
  refine CW.loop (fun n a w1 => ∃ (s140 : (List Int)) (v141 : Value) (rem142 : List (Int × (List Int))) (last143 : Option (Int × Value × (List Int))), n = rem142.length ∧ Rep 28 [(1, .int .i64 p1), (5, v141), (12, .pointer (some ⟨it7, 0, none⟩))] a ∧ St w (fp [itI R_t24 [.pointer (some ⟨b1, 0, none⟩)] S0 p0]) w1 [rowI v141 3 (encInt .i64) 1 s140, rngI it7 r4 R_t28 S3 p0.held rem142 last143, blkI b1 43 [.int .i64 p0.maps, .map (some r4)]] ∧ ∀ q, q.Perm rem142 → rangeF (refs_Refs_Holders_b1 p0 p1) (refs_Refs_Holders_f1 p0 p1) q s140 = some r) (p0.held.length) (fun a ha => ⟨([] : List Int), (.slice none 0 0), p0.held, none, rfl, ha.agrees (by kernel_rfl), hst.keep [2, 1, 0] rfl, fun q hq => (refs_Refs_Holders_fair1 p0 p1) q hq _ hF⟩) ?_
  rintro n137 a w1 ⟨s140, v141, rem142, last143, hn139, ha, hst, hl138⟩
  refine CW.go ?_ ha
  obtain ⟨l144, a145, c146, rfl⟩ := hst.len 0 rfl
  refine CW.seq ?_
  refine CW.region ?_
  refine OW.rnext hst 1 rfl rfl rfl rfl rfl ?_ ?_
  · intro hr167
    have hf168 : (refs_Refs_Holders_f1 p0 p1) s140 = some r := hl138 [] (by rw [hr167])
    have hst := hst.unrng 1 rfl
    refine OW.pure 1 [(14, .bool false)] (by kernel_rfl) ?_
    refine OW.nil rfl ?_
    refine QW.next ?_
    refine CW.seq ?_
    refine CW.cond_f rfl rfl ?_
    refine CW.exit ?_
    refine QW.then_exit ?_
    refine QW.then_exit ?_
    refine QW.block_here ?_
    refine QW.next ?_
    refine CW.seq ?_
    refine CW.region ?_
    refine OW.pure 1 [(25, .slice a145 (s140).length c146)] (by kernel_rfl) ?_
    obtain ⟨r173, hr174, hf168⟩ := bind_some' hf168
    refine OW.fn rfl rfl rfl rfl (by kernel_rfl) (slices_Sort_int_int_ok _ (.slice a145 (s140).length c146) s140 r173 hr174 (hst.part [0] rfl)) ?_
    rintro e w175 ⟨rfl, hst176⟩
    refine ⟨_, rfl, ?_⟩
    have hst := hst.join (idx := [0]) (rest := [1, 2]) rfl hst176
    refine OW.nil rfl ?_
    refine QW.next ?_
    refine CW.seq ?_
    refine CW.region ?_
    refine OW.pure 2 [(4, .slice a145 (s140).length c146)] (by kernel_rfl) ?_
    refine OW.nil rfl ?_
    refine QW.next ?_
    refine CW.ret ?_
    have hst := hst.ofMN 1 rfl
    obtain ⟨S177, hst⟩ := hst.shutP1 R_t43 rfl 2 1 [0] rfl rfl rfl p0 rfl rfl
    obtain rfl := Option.some.inj hf168
    refine QW.ret1 rfl rfl ?_
    exact ⟨S177, (.slice a145 (s140).length c146), rfl, hst.keep [1, 0] rfl⟩
  · intro k158 v159 x160 rem161 w162 hp163 hst
    obtain ⟨t166, hs164, ht165⟩ := bind_some' (hl138 ((k158, x160) :: rem161) hp163.symm)
    have hs1640 := hs164
    refine OW.pure 1 [(14, .bool true)] (by kernel_rfl) ?_
    refine OW.nil rfl ?_
    refine QW.next ?_
    refine CW.seq ?_
    refine CW.cond_t rfl rfl ?_
    refine CW.skip ?_
    refine QW.next ?_
    refine CW.block ?_
    refine CW.seq ?_
    refine CW.region ?_
    refine OW.rentry hst 1 rfl rfl rfl rfl rfl ?_
    refine OW.pure 4 [(6, .int .i64 k158), (7, v159)] (by kernel_rfl) ?_
    refine OW.nil rfl ?_
    refine QW.next ?_
    refine CW.seq ?_
    refine CW.region ?_
    refine OW.pure 2 [(18, v159), (19, .int .i64 p1)] (by kernel_rfl) ?_
    obtain ⟨r182, hr183, hs164⟩ := bind_some' hs164
    refine OW.fn rfl rfl rfl rfl (by kernel_rfl) (slices_Contains_int_int_ok _ v159 x160 p1 r182 hr183 (hst.part [] rfl) (hst.rseeRow 1 rfl [] rfl)) ?_
    rintro e w184 ⟨rfl, hst185⟩
    refine ⟨_, rfl, ?_⟩
    have hst := hst.join (idx := []) (rest := [0, 1, 2]) rfl hst185
    refine OW.nil rfl ?_
    refine QW.next ?_
    rcases Bool.eq_false_or_eq_true (r182) with hc186 | hc186
    · have hs164 := ite_t hs164 hc186
      refine CW.cond_t rfl hc186 ?_
      refine CW.region ?_
      refine OW.pure 2 [(21, .slice a145 (s140).length c146), (22, .int .i64 k158)] (by kernel_rfl) ?_
      refine OW.row (α := Int) (e := 3) (enc := encInt .i64) (sz := 1) hst rfl rfl rfl [k158] rfl (fun _ => rfl) rfl rfl (fun _ => by kernel_rfl) ?_
      intro g196 w197 hst
      obtain ⟨u198, hr199, hs164⟩ := bind_some' hs164
      refine OW.app hst 0 rfl (fun _ => rfl) (fun _ => rfl) rfl rfl rfl rfl rfl rfl (by kernel_rfl) el3 (hst.rd 3 rfl (fun _ => rfl) [] rfl (hst.len 3 rfl).1) (room_le hr199) ?_
      intro v200 w201 hst
      obtain ⟨l202, a203, c204, rfl⟩ := hst.len 0 rfl
      refine OW.pure 1 [(5, .slice a203 ((s140 ++ [k158])).length c204)] (by kernel_rfl) ?_
      refine OW.nil rfl ?_
      refine QW.block_normal ?_
      obtain rfl := Option.some.inj hs164
      exact QW.meet (fun a ha => ⟨_, rng_lt hn139 hp163, (s140 ++ [k158]), (.slice a203 ((s140 ++ [k158])).length c204), rem161, (some (k158, v159, x160)), rfl, ha.agrees (by kernel_rfl), hst.keep [0, 1, 2] rfl, fun q hq => rangeF_step (hl138 _ ((List.Perm.cons _ hq).trans hp163.symm)) hs1640⟩)
    · have hs164 := ite_f hs164 hc186
      refine CW.cond_f rfl hc186 ?_
      refine CW.skip ?_
      refine QW.block_normal ?_
      obtain rfl := Option.some.inj hs164
      exact QW.meet (fun a ha => ⟨_, rng_lt hn139 hp163, s140, (.slice a145 (s140).length c146), rem161, (some (k158, v159, x160)), rfl, ha.agrees (by kernel_rfl), hst.keep [0, 1, 2] rfl, fun q hq => rangeF_step (hl138 _ ((List.Perm.cons _ hq).trans hp163.symm)) hs1640⟩)

set_option maxRecDepth 10000 in
theorem refs_Refs_Count_ok (w : World) (v0 : Value) (S0 : List Nat) (p0 : refs_Refs) (p1 : Int) (r : Int × Int) (hF : refs_Refs_Count p0 p1 = some r)
    (hst : St w (fp [itI R_t24 [v0] S0 p0]) w [itI R_t24 [v0] S0 p0]) :
    Calls Try.prog 9 [v0, .int .i64 p1].toArray w (fun e w' => ∃ (s0 : List Nat), e = .returned (.tuple #[.int .i64 r.1, .int .i64 r.2]) ∧ St w (fp [itI R_t24 [v0] S0 p0]) w' [itI R_t24 [v0] s0 p0]) := by
  refine CW.start (N := 20) Try.func9 rfl rfl rfl ?_
  obtain ⟨b1, rfl⟩ := hst.fptr 0 rfl
  refine CW.seq ?_
  refine CW.region ?_
  refine OW.pure 2 [] (by kernel_rfl) ?_
  refine OW.nil rfl ?_
  refine QW.next ?_
  refine CW.seq ?_
  refine CW.seq ?_
  obtain ⟨v2, S3, hst⟩ := hst.openQ1 0 rfl rfl
  obtain ⟨r4, rfl, hst⟩ := hst.toMN1 1 rfl
  have hst : St _ _ _ [blkI b1 43 [.int .i64 p0.maps, .map (some r4)], _] := hst
  refine CW.cutK (fun a w1 => Rep 20 [(0, .pointer (some ⟨b1, 0, none⟩)), (1, .int .i64 p1), (15, .bool (decide (p1 < 0) || decide (p1 ≥ p0.maps)))] a ∧ St w (fp [itI R_t24 [.pointer (some ⟨b1, 0, none⟩)] S0 p0]) w1 [blkI b1 43 [.int .i64 p0.maps, .map (some r4)], mN r4 R_t28 S3 p0.held none]) ?_ ?_
  · refine CW.region ?_
    refine OW.pure 3 [(8, .bool (decide (p1 < 0)))] (by kernel_rfl) ?_
    refine OW.split 8 rfl (fun hc5 => ?_) (fun hc5 => ?_)
    · refine OW.pure 7 [(15, .bool true)] (by kernel_rfl) ?_
      refine OW.nil rfl ?_
      refine QW.say 15 (v := .bool (decide (p1 < 0) || decide (p1 ≥ p0.maps))) rfl (by first | (rw [hc5]; done) | (rw [hc5]; rfl) | simp [hc5]) ?_
      exact QW.meet (fun a ha => ⟨ha.agrees (by kernel_rfl), hst.keep [0, 1] rfl⟩)
    · refine OW.pure 4 [(9, .int .i64 p1), (12, .pointer (some ⟨b1, 0, none⟩))] (by kernel_rfl) ?_
      refine OW.ld rfl rfl rfl rfl (by kernel_rfl) (hst.blk 0 rfl rfl) ?_
      refine OW.pure 2 [(15, .bool (decide (p1 ≥ p0.maps)))] (by kernel_rfl) ?_
      refine OW.nil rfl ?_
      refine QW.say 15 (v := .bool (decide (p1 < 0) || decide (p1 ≥ p0.maps))) rfl (by first | (rw [hc5]; done) | (rw [hc5]; rfl) | simp [hc5]) ?_
      exact QW.meet (fun a ha => ⟨ha.agrees (by kernel_rfl), hst.keep [0, 1] rfl⟩)
  · rintro a w1 ⟨ha, hst⟩
    refine CW.go ?_ ha
    rcases Bool.eq_false_or_eq_true ((decide (p1 < 0) || decide (p1 ≥ p0.maps))) with hc6 | hc6
    · have hF := ite_t hF hc6
      refine CW.cond_t rfl hc6 ?_
      refine CW.seq ?_
      refine CW.region ?_
      refine OW.pure 2 [(4, .int .i64 0), (5, .int .i64 2)] (by kernel_rfl) ?_
      refine OW.nil rfl ?_
      refine QW.next ?_
      refine CW.ret ?_
      refine QW.then_ret ?_
      have hst := hst.ofMN 1 rfl
      obtain ⟨S7, hst⟩ := hst.shutP1 R_t43 rfl 0 1 [] rfl rfl rfl p0 rfl rfl
      obtain rfl := Option.some.inj hF
      refine QW.ret2 rfl rfl rfl ?_
      exact ⟨S7, rfl, hst.keep [0] rfl⟩
    · have hF := ite_f hF hc6
      refine CW.cond_f rfl hc6 ?_
      refine CW.skip ?_
      refine QW.next ?_
      refine CW.seq ?_
      refine CW.region ?_
      refine OW.pure 2 [(16, .pointer (some ⟨b1, 0, none⟩)), (17, .int .i64 p1)] (by kernel_rfl) ?_
      have hst := hst.ofMN 1 rfl
      obtain ⟨S18, hst⟩ := hst.shutP1 R_t43 rfl 0 1 [] rfl rfl rfl p0 rfl rfl
      obtain ⟨r19, hr20, hF⟩ := bind_some' hF
      refine OW.fn rfl rfl rfl rfl (by kernel_rfl) (refs_Refs_Holders_ok _ (.pointer (some ⟨b1, 0, none⟩)) S18 p0 p1 r19 hr20 (hst.part [0] rfl)) ?_
      rintro e w21 ⟨S23, v24, rfl, hst22⟩
      refine ⟨_, rfl, ?_⟩
      have hst := hst.join (idx := [0]) (rest := []) rfl hst22
      obtain ⟨l25, a26, c27, rfl⟩ := hst.len 1 rfl
      refine OW.pure 3 [(4, .int .i64 (((r19).length) : Int)), (5, .int .i64 0)] (by kernel_rfl) ?_
      refine OW.nil rfl ?_
      refine QW.next ?_
      refine CW.ret ?_
      obtain rfl := Option.some.inj hF
      refine QW.ret2 rfl rfl rfl ?_
      exact ⟨S23, rfl, hst.keep [0] rfl⟩

set_option maxRecDepth 10000 in
theorem refs_Refs_Held_ok (w : World) (v0 : Value) (S0 : List Nat) (p0 : refs_Refs) (p1 : Int) (r : (List Int) × Bool) (hF : refs_Refs_Held p0 p1 = some r)
    (hst : St w (fp [itI R_t24 [v0] S0 p0]) w [itI R_t24 [v0] S0 p0]) :
    Calls Try.prog 11 [v0, .int .i64 p1].toArray w (fun e w' => ∃ (s0 : List Nat) (x0 : Value), e = .returned (.tuple #[x0, .bool r.2]) ∧ St w (fp [itI R_t24 [v0] S0 p0]) w' [itI R_t24 [v0] s0 p0, rowI x0 3 (encInt .i64) 1 r.1]) := by
  refine CW.start (N := 20) Try.func11 rfl rfl rfl ?_
  obtain ⟨b1, rfl⟩ := hst.fptr 0 rfl
  refine CW.seq ?_
  refine CW.region ?_
  refine OW.pure 2 [] (by kernel_rfl) ?_
  refine OW.nil rfl ?_
  refine QW.next ?_
  refine CW.seq ?_
  obtain ⟨v2, S3, hst⟩ := hst.openQ1 0 rfl rfl
  obtain ⟨r4, rfl, hst⟩ := hst.toMN1 1 rfl
  have hst : St _ _ _ [blkI b1 43 [.int .i64 p0.maps, .map (some r4)], _] := hst
  refine CW.region ?_
  refine OW.pure 3 [(11, .pointer (some ⟨b1, 1, none⟩))] (by kernel_rfl) ?_
  refine OW.ld rfl rfl rfl rfl (by kernel_rfl) (hst.blk 0 rfl rfl) ?_
  refine OW.pure 1 [(13, .int .i64 p1)] (by kernel_rfl) ?_
  refine OW.mlook (tk := 3) (te := 28) (kd := .i64) R_t28 (fun o => o.getD []) hst 1 rfl rfl rfl rfl rfl rfl (by kernel_rfl) (by kernel_rfl) (.slice none 0 0) (by kernel_rfl) (fun w => ⟨_, rfl, rfl, Owns.nil w _ _ none⟩) (fun _ _ _ _ h => h) (fun _ _ _ _ h => h) ?_
  intro v11 S12 S13 hst
  have hst := hst.toRow1 2 rfl
  obtain ⟨l14, a15, c16, rfl⟩ := hst.len 2 rfl
  refine OW.pure 5 [(6, .slice a15 (((mget p0.held p1).getD [])).length c16), (7, .bool ((mget p0.held p1).isSome))] (by kernel_rfl) ?_
  refine OW.nil rfl ?_
  refine QW.next ?_
  refine CW.seq ?_
  refine CW.region ?_
  refine OW.pure 1 [(17, .slice a15 (((mget p0.held p1).getD [])).length c16)] (by kernel_rfl) ?_
  obtain ⟨r25, hr26, hF⟩ := bind_some' hF
  refine OW.fn rfl rfl rfl rfl (by kernel_rfl) (slices_Clone_int_int_ok _ (.slice a15 (((mget p0.held p1).getD [])).length c16) ((mget p0.held p1).getD []) r25 hr26 (hst.part [] rfl) (hst.rd 2 rfl (fun _ => rfl) [] rfl (hst.len 2 rfl).1)) ?_
  rintro e w27 ⟨v29, rfl, hst28⟩
  refine ⟨_, rfl, ?_⟩
  have hst := hst.join (idx := []) (rest := [0, 1, 2]) rfl hst28
  obtain ⟨l30, a31, c32, rfl⟩ := hst.len 0 rfl
  refine OW.pure 3 [(4, .slice a31 (r25).length c32), (5, .bool ((mget p0.held p1).isSome))] (by kernel_rfl) ?_
  refine OW.nil rfl ?_
  refine QW.next ?_
  refine CW.ret ?_
  have hst := hst.toIt 3 rfl (fun _ => rfl) (by decide)
  obtain ⟨S33, hst⟩ := hst.mback0 (f := (fun o => o.getD [])) 2 3 rfl rfl rfl (fun _ _ _ _ h => h)
  have hst := hst.keep [0, 1, 2] rfl
  have hst := hst.ofMN 2 rfl
  obtain ⟨S34, hst⟩ := hst.shutP1 R_t43 rfl 1 2 [0] rfl rfl rfl p0 rfl rfl
  obtain rfl := Option.some.inj hF
  refine QW.ret2 rfl rfl rfl ?_
  exact ⟨S34, (.slice a31 (r25).length c32), rfl, hst.keep [1, 0] rfl⟩

set_option maxRecDepth 10000 in
theorem tappetlaw18_awake_ok (w : World)  (r : Bool) (hF : tappetlaw18_awake  = some r)
    (hst : St w (fp []) w []) :
    Calls Try.prog 5 [].toArray w (fun e w' => e = .returned (.bool r) ∧ St w (fp []) w' []) := by
  refine CW.start (N := 57) Try.func5 rfl rfl rfl ?_
  refine CW.seq ?_
  refine CW.region ?_
  refine OW.pure 1 [] (by kernel_rfl) ?_
  refine OW.nil rfl ?_
  refine QW.next ?_
  refine CW.seq ?_
  refine CW.region ?_
  obtain ⟨r11, hr12, hF⟩ := bind_some' hF
  refine OW.fn rfl rfl rfl rfl (by kernel_rfl) (refs_New_ok _ 3 r11 hr12 (hst.part [] rfl)) ?_
  rintro e w13 (⟨k15, v17, S18, he16, rfl, hst14⟩ | ⟨he19, rfl, hst14⟩)
  · have hF := ocase_some hF he16
    refine ⟨_, rfl, ?_⟩
    have hst := hst.join (idx := []) (rest := []) rfl hst14
    obtain ⟨b20, rfl⟩ := hst.fptr 0 rfl
    refine OW.pure 5 [(1, .pointer (some ⟨b20, 0, none⟩)), (2, .int .i64 r11.2)] (by kernel_rfl) ?_
    refine OW.nil rfl ?_
    refine QW.next ?_
    refine CW.seq ?_
    refine CW.seq ?_
    obtain ⟨o30, ho31, hF⟩ := bind_some' hF
    refine CW.cutK (fun a w1 => ∃ (S29 : List Nat), Rep 57 [(1, .pointer (some ⟨b20, 0, none⟩)), (21, .bool o30.2)] a ∧ St w (fp []) w1 [itI R_t24 [.pointer (some ⟨b20, 0, none⟩)] S29 o30.1]) ?_ ?_
    · refine CW.region ?_
      refine OW.pure 7 [(16, .bool (r11.2 != 0))] (by kernel_rfl) ?_
      refine OW.split 16 rfl (fun hc32 => ?_) (fun hc32 => ?_)
      · have ho31 := ite_t ho31 hc32
        refine OW.pure 5 [(21, .bool true)] (by kernel_rfl) ?_
        refine OW.nil rfl ?_
        obtain rfl := Option.some.inj ho31
        exact QW.meet (fun a ha => ⟨S18, ha.agrees (by kernel_rfl), hst.keep [0] rfl⟩)
      · have ho31 := ite_f ho31 hc32
        refine OW.pure 1 [(17, .pointer (some ⟨b20, 0, none⟩))] (by kernel_rfl) ?_
        refine OW.row (α := Int) (e := 3) (enc := encInt .i64) (sz := 1) hst rfl rfl rfl [2, 0] rfl (fun _ => rfl) rfl rfl (fun _ => by kernel_rfl) ?_
        intro g33 w34 hst
        obtain ⟨r35, hr36, ho31⟩ := bind_some' ho31
        refine OW.fn rfl rfl rfl rfl (by kernel_rfl) (refs_Refs_Hold_ok _ (.pointer (some ⟨b20, 0, none⟩)) S18 k15 7 (.slice (some ⟨g33, 0, none⟩) 2 2) ([2, 0]) r35 hr36 (hst.part [0] rfl) (hst.rd 1 rfl (fun _ => rfl) [0] rfl (hst.len 1 rfl).1)) ?_
        rintro e w37 ⟨S39, rfl, hst38⟩
        refine ⟨_, rfl, ?_⟩
        have hst := hst.join (idx := [0]) (rest := [1]) rfl hst38
        refine OW.pure 2 [(21, .bool (r35.1 != 0))] (by kernel_rfl) ?_
        refine OW.nil rfl ?_
        obtain rfl := Option.some.inj ho31
        exact QW.meet (fun a ha => ⟨S39, ha.agrees (by kernel_rfl), hst.keep [0] rfl⟩)
    · rintro a w1 ⟨S29, ha, hst⟩
      refine CW.go ?_ ha
      rcases Bool.eq_false_or_eq_true (o30.2) with hc40 | hc40
      · have hF := ite_t hF hc40
        refine CW.cond_t rfl hc40 ?_
        refine CW.seq ?_
        refine CW.region ?_
        refine OW.pure 1 [(0, .bool false)] (by kernel_rfl) ?_
        refine OW.nil rfl ?_
        refine QW.next ?_
        refine CW.ret ?_
        refine QW.then_ret ?_
        obtain rfl := Option.some.inj hF
        refine QW.ret1 rfl rfl ?_
        exact ⟨rfl, hst.keep [] rfl⟩
      · have hF := ite_f hF hc40
        refine CW.cond_f rfl hc40 ?_
        refine CW.skip ?_
        refine QW.next ?_
        refine CW.seq ?_
        refine CW.region ?_
        refine OW.pure 1 [(23, .pointer (some ⟨b20, 0, none⟩))] (by kernel_rfl) ?_
        obtain ⟨r46, hr47, hF⟩ := bind_some' hF
        refine OW.fn rfl rfl rfl rfl (by kernel_rfl) (refs_Refs_Count_ok _ (.pointer (some ⟨b20, 0, none⟩)) S29 o30.1 2 r46 hr47 (hst.part [0] rfl)) ?_
        rintro e w48 ⟨S50, rfl, hst49⟩
        refine ⟨_, rfl, ?_⟩
        have hst := hst.join (idx := [0]) (rest := []) rfl hst49
        refine OW.pure 5 [(3, .int .i64 r46.1), (2, .int .i64 r46.2)] (by kernel_rfl) ?_
        refine OW.nil rfl ?_
        refine QW.next ?_
        refine CW.seq ?_
        refine CW.region ?_
        refine OW.pure 1 [(28, .pointer (some ⟨b20, 0, none⟩))] (by kernel_rfl) ?_
        obtain ⟨r60, hr61, hF⟩ := bind_some' hF
        refine OW.fn rfl rfl rfl rfl (by kernel_rfl) (refs_Refs_Held_ok _ (.pointer (some ⟨b20, 0, none⟩)) S50 o30.1 7 r60 hr61 (hst.part [0] rfl)) ?_
        rintro e w62 ⟨S64, v65, rfl, hst63⟩
        refine ⟨_, rfl, ?_⟩
        have hst := hst.join (idx := [0]) (rest := []) rfl hst63
        obtain ⟨l66, a67, c68, rfl⟩ := hst.len 1 rfl
        refine OW.pure 5 [(4, .slice a67 (r60.1).length c68), (5, .bool r60.2)] (by kernel_rfl) ?_
        refine OW.nil rfl ?_
        refine QW.next ?_
        refine CW.seq ?_
        obtain ⟨o85, ho86, hF⟩ := bind_some' hF
        refine CW.cutK (fun a w1 => Rep 57 [(0, .bool o85)] a ∧ St w (fp []) w1 []) ?_ ?_
        · refine CW.region ?_
          refine OW.pure 3 [(34, .bool (r46.1 == 1))] (by kernel_rfl) ?_
          refine OW.split 34 rfl (fun hc87 => ?_) (fun hc87 => ?_)
          · have ho86 := ite_t ho86 hc87
            refine OW.pure 4 [(38, .bool (r46.2 == 0))] (by kernel_rfl) ?_
            refine OW.split 38 rfl (fun hc88 => ?_) (fun hc88 => ?_)
            · have ho86 := ite_t ho86 hc88
              refine OW.pure 3 [(41, .bool r60.2)] (by kernel_rfl) ?_
              refine OW.split 41 rfl (fun hc89 => ?_) (fun hc89 => ?_)
              · have ho86 := ite_t ho86 hc89
                refine OW.pure 5 [(46, .bool ((((r60.1).length) : Int) == 2))] (by kernel_rfl) ?_
                refine OW.split 46 rfl (fun hc90 => ?_) (fun hc90 => ?_)
                · have ho86 := ite_t ho86 hc90
                  refine OW.pure 1 [(47, .slice a67 (r60.1).length c68)] (by kernel_rfl) ?_
                  obtain ⟨x91, hx92, ho86⟩ := bind_some' ho86
                  obtain ⟨g94, o95, c96, hv93⟩ := hst.rowv 1 rfl hx92
                  refine OW.idx 3 1 rfl rfl rfl rfl hv93 rfl (idx_some hx92).1 (idx_some hx92).2.1 (by kernel_rfl) (by kernel_rfl) ?_
                  refine OW.ld rfl rfl rfl rfl (by kernel_rfl) (hst.rowc 1 rfl (fun _ => rfl) hx92 hv93 0 _ rfl) ?_
                  refine OW.pure 3 [(52, .bool (x91 == 2))] (by kernel_rfl) ?_
                  refine OW.split 52 rfl (fun hc97 => ?_) (fun hc97 => ?_)
                  · have ho86 := ite_t ho86 hc97
                    refine OW.pure 1 [(53, .pointer (some ⟨b20, 0, none⟩))] (by kernel_rfl) ?_
                    obtain ⟨r98, hr99, ho86⟩ := bind_some' ho86
                    refine OW.fn rfl rfl rfl rfl (by kernel_rfl) (refs_Refs_Hold_ok _ (.pointer (some ⟨b20, 0, none⟩)) S64 o30.1 7 (.slice none 0 0) ([] : List Int) r98 hr99 (hst.part [0] rfl) (Rd.nil _ _ _ _ _)) ?_
                    rintro e w100 ⟨S102, rfl, hst101⟩
                    refine ⟨_, rfl, ?_⟩
                    have hst := hst.join (idx := [0]) (rest := [1]) rfl hst101
                    refine OW.pure 3 [(0, .bool (r98.1 == 42))] (by kernel_rfl) ?_
                    refine OW.nil rfl ?_
                    obtain rfl := Option.some.inj ho86
                    exact QW.meet (fun a ha => ⟨ha.agrees (by kernel_rfl), hst.keep [] rfl⟩)
                  · have ho86 := ite_f ho86 hc97
                    refine OW.pure 5 [(0, .bool false)] (by kernel_rfl) ?_
                    refine OW.nil rfl ?_
                    obtain rfl := Option.some.inj ho86
                    exact QW.meet (fun a ha => ⟨ha.agrees (by kernel_rfl), hst.keep [] rfl⟩)
                · have ho86 := ite_f ho86 hc90
                  refine OW.pure 11 [(0, .bool false)] (by kernel_rfl) ?_
                  refine OW.nil rfl ?_
                  obtain rfl := Option.some.inj ho86
                  exact QW.meet (fun a ha => ⟨ha.agrees (by kernel_rfl), hst.keep [] rfl⟩)
              · have ho86 := ite_f ho86 hc89
                refine OW.pure 16 [(0, .bool false)] (by kernel_rfl) ?_
                refine OW.nil rfl ?_
                obtain rfl := Option.some.inj ho86
                exact QW.meet (fun a ha => ⟨ha.agrees (by kernel_rfl), hst.keep [] rfl⟩)
            · have ho86 := ite_f ho86 hc88
              refine OW.pure 19 [(0, .bool false)] (by kernel_rfl) ?_
              refine OW.nil rfl ?_
              obtain rfl := Option.some.inj ho86
              exact QW.meet (fun a ha => ⟨ha.agrees (by kernel_rfl), hst.keep [] rfl⟩)
          · have ho86 := ite_f ho86 hc87
            refine OW.pure 23 [(0, .bool false)] (by kernel_rfl) ?_
            refine OW.nil rfl ?_
            obtain rfl := Option.some.inj ho86
            exact QW.meet (fun a ha => ⟨ha.agrees (by kernel_rfl), hst.keep [] rfl⟩)
        · rintro a w1 ⟨ha, hst⟩
          refine CW.go ?_ ha
          refine CW.ret ?_
          obtain rfl := Option.some.inj hF
          refine QW.ret1 rfl rfl ?_
          exact ⟨rfl, hst.keep [] rfl⟩
  · have hF := ocase_none hF he19
    refine ⟨_, rfl, ?_⟩
    have hst := hst.join (idx := []) (rest := []) rfl hst14
    refine OW.pure 5 [(1, .pointer none), (2, .int .i64 r11.2)] (by kernel_rfl) ?_
    refine OW.nil rfl ?_
    refine QW.next ?_
    refine CW.seq ?_
    refine CW.seq ?_
    refine CW.region ?_
    refine OW.pure 12 [(21, .bool true)] (by kernel_rfl) ?_
    refine OW.nil rfl ?_
    refine QW.next ?_
    refine CW.cond_t rfl rfl ?_
    refine CW.seq ?_
    refine CW.region ?_
    refine OW.pure 1 [(0, .bool false)] (by kernel_rfl) ?_
    refine OW.nil rfl ?_
    refine QW.next ?_
    refine CW.ret ?_
    refine QW.then_ret ?_
    obtain rfl := Option.some.inj hF
    refine QW.ret1 rfl rfl ?_
    exact ⟨rfl, hst.keep [] rfl⟩

set_option maxRecDepth 10000 in
theorem refs_Refs_Drop_ok (w : World) (v0 : Value) (S0 : List Nat) (p0 : refs_Refs) (v1 : Value) (p1 : List Int) (r : Int × refs_Refs) (hF : refs_Refs_Drop p0 p1 = some r)
    (hst : St w (fp [itI R_t24 [v0] S0 p0]) w [itI R_t24 [v0] S0 p0]) (h1 : Rd w (fp [itI R_t24 [v0] S0 p0]) v1 (encInt .i64) 1 p1) :
    Calls Try.prog 8 [v0, v1].toArray w (fun e w' => ∃ (s0 : List Nat), e = .returned (.int .i64 r.1) ∧ St w (fp [itI R_t24 [v0] S0 p0]) w' [itI R_t24 [v0] s0 r.2]) := by
  refine CW.start (N := 56) Try.func8 rfl rfl rfl ?_
  obtain ⟨l1, a2, c3, rfl⟩ := h1.len
  obtain ⟨b4, rfl⟩ := hst.fptr 0 rfl
  refine CW.seq ?_
  refine CW.region ?_
  refine OW.pure 1 [] (by kernel_rfl) ?_
  refine OW.nil rfl ?_
  refine QW.next ?_
  refine CW.seq ?_
  refine CW.seq ?_
  refine CW.region ?_
  refine OW.pure 3 [(13, .slice a2 (p1).length c3), (14, .int .i64 (((p1).length) : Int)), (15, .int .i64 0)] (by kernel_rfl) ?_
  refine OW.nil rfl ?_
  refine QW.next ?_
  obtain ⟨o95, ho96, hF⟩ := bind_some' hF
  refine CW.cutK (fun a w1 => ∃ (t97 : Unit), o95 = .inl t97 ∧ Rep 56 [(0, .pointer (some ⟨b4, 0, none⟩)), (1, .slice a2 (p1).length c3)] a ∧ St w (fp [itI R_t24 [.pointer (some ⟨b4, 0, none⟩)] S0 p0]) w1 [itI R_t24 [.pointer (some ⟨b4, 0, none⟩)] S0 p0]) ?_ ?_
  · refine CW.block ?_
    refine CW.loop (fun n a w1 => ∃ (i158 : Nat) (s157 : Unit), i158 + n = (p1).length ∧ Rep 56 [(0, .pointer (some ⟨b4, 0, none⟩)), (1, .slice a2 (p1).length c3), (13, .slice a2 (p1).length c3), (14, .int .i64 (((p1).length) : Int)), (15, .int .i64 (i158 : Int))] a ∧ St w (fp [itI R_t24 [.pointer (some ⟨b4, 0, none⟩)] S0 p0]) w1 [itI R_t24 [.pointer (some ⟨b4, 0, none⟩)] S0 p0] ∧ forN (refs_Refs_Drop_l1 p0 p1) (fun (s157 : Unit) => (.inl ())) n i158 s157 = some o95) ((p1).length) (fun a ha => ⟨0, (), Nat.zero_add _, ha.agrees (by kernel_rfl), hst.keep [0] rfl, ho96⟩) ?_
    rintro n155 a w1 ⟨i158, s157, hi159, ha, hst, hl156⟩
    refine CW.go ?_ ha
    refine CW.seq ?_
    refine CW.region ?_
    refine OW.pure 1 [(16, .bool (decide ((i158 : Int) < (((p1).length) : Int))))] (by kernel_rfl) ?_
    refine OW.nil rfl ?_
    refine QW.next ?_
    refine CW.seq ?_
    rcases Bool.eq_false_or_eq_true (decide ((i158 : Int) < (((p1).length) : Int))) with hc160 | hc160
    · rcases n155 with _ | n155
      · exact (cnt0 hi159 hc160).elim
      refine CW.cond_t rfl hc160 ?_
      refine CW.skip ?_
      refine QW.next ?_
      refine CW.seq ?_
      refine CW.block ?_
      refine CW.seq ?_
      refine CW.region ?_
      refine OW.pure 1 [(17, .int .i64 (i158 : Int))] (by kernel_rfl) ?_
      obtain ⟨x167, hx168, hl156⟩ := bind_some' hl156
      obtain ⟨g170, o171, c172, hv169⟩ := h1.formv (fun _ => ⟨_, rfl⟩) hx168
      refine OW.idx 3 1 rfl rfl rfl rfl hv169 rfl (idx_some hx168).1 (idx_some hx168).2.1 (by kernel_rfl) (by kernel_rfl) ?_
      refine OW.ld rfl rfl rfl rfl (by kernel_rfl) (h1.cellv hst hx168 hv169 0 _ rfl) ?_
      refine OW.pure 2 [(5, .int .i64 (i158 : Int)), (6, .int .i64 x167)] (by kernel_rfl) ?_
      refine OW.nil rfl ?_
      refine QW.next ?_
      refine CW.seq ?_
      refine CW.region ?_
      refine OW.pure 2 [(20, .slice a2 (p1).length c3), (21, .int .i64 (i158 : Int))] (by kernel_rfl) ?_
      obtain ⟨ys180, hcut181, hl156⟩ := bind_some' hl156
      refine OW.op (v := .slice a2 (ys180).length c3) rfl rfl rfl rfl (fun a ha => pre_run (e := 3) 1 rfl rfl rfl hcut181 h1.cap (by kernel_rfl) (by kernel_rfl) a _ ha) ?_
      have hp182 := h1.pre hcut181
      refine OW.pure 1 [(23, .int .i64 x167)] (by kernel_rfl) ?_
      obtain ⟨r183, hr184, hl156⟩ := bind_some' hl156
      refine OW.fn rfl rfl rfl rfl (by kernel_rfl) (slices_Contains_int_int_ok _ (.slice a2 (ys180).length c3) ys180 x167 r183 hr184 (hst.part [] rfl) (hp182.give hst [])) ?_
      rintro e w185 ⟨rfl, hst186⟩
      refine ⟨_, rfl, ?_⟩
      have hst := hst.join (idx := []) (rest := [0]) rfl hst186
      refine OW.nil rfl ?_
      refine QW.next ?_
      rcases Bool.eq_false_or_eq_true (r183) with hc187 | hc187
      · have hl156 := ite_t hl156 hc187
        refine CW.cond_t rfl hc187 ?_
        refine CW.seq ?_
        refine CW.region ?_
        refine OW.pure 1 [(4, .int .i64 2)] (by kernel_rfl) ?_
        refine OW.nil rfl ?_
        refine QW.next ?_
        refine CW.ret ?_
        refine QW.block_ret ?_
        refine QW.then_ret ?_
        refine QW.then_ret ?_
        refine QW.block_ret ?_
        refine QW.then_ret ?_
        obtain rfl := Option.some.inj hl156
        obtain rfl := Option.some.inj hF
        refine QW.ret1 rfl rfl ?_
        exact ⟨S0, rfl, hst.keep [0] rfl⟩
      · have hl156 := ite_f hl156 hc187
        refine CW.cond_f rfl hc187 ?_
        refine CW.skip ?_
        refine QW.block_normal ?_
        refine QW.next ?_
        refine CW.region ?_
        refine OW.pure 2 [(15, .int .i64 (w64 ((i158 : Int) + 1)))] (by kernel_rfl) ?_
        refine OW.nil rfl ?_
        refine QW.say 15 rfl (congrArg (Value.int .i64) (w64_cnt hc160 l1)) ?_
        exact QW.meet (fun a ha => ⟨n155, Nat.lt_succ_self _, i158 + 1, (), cnt_next hi159, ha.agrees (by kernel_rfl), hst.keep [0] rfl, hl156⟩)
    · rcases n155 with _ | n155
      · refine CW.cond_f rfl hc160 ?_
        refine CW.exit ?_
        refine QW.then_exit ?_
        refine QW.then_exit ?_
        refine QW.block_here ?_
        obtain rfl := Option.some.inj hl156
        exact QW.meet (fun a ha => ⟨(), rfl, ha.agrees (by kernel_rfl), hst.keep [0] rfl⟩)
      · exact (cnt1 hi159 hc160).elim
  · rintro a w1 ⟨t97, rfl, ha, hst⟩
    refine CW.go ?_ ha
    refine CW.seq ?_
    refine CW.seq ?_
    refine CW.region ?_
    refine OW.pure 3 [(26, .slice a2 (p1).length c3), (27, .int .i64 (((p1).length) : Int)), (28, .int .i64 0)] (by kernel_rfl) ?_
    refine OW.nil rfl ?_
    refine QW.next ?_
    obtain ⟨o297, ho298, hF⟩ := bind_some' hF
    refine CW.cutK (fun a w1 => ∃ (t299 : Unit) (S296 : List Nat), o297 = .inl t299 ∧ Rep 56 [(0, .pointer (some ⟨b4, 0, none⟩)), (1, .slice a2 (p1).length c3)] a ∧ St w (fp [itI R_t24 [.pointer (some ⟨b4, 0, none⟩)] S0 p0]) w1 [itI R_t24 [.pointer (some ⟨b4, 0, none⟩)] S296 p0]) ?_ ?_
    · refine CW.block ?_
      refine CW.loop (fun n a w1 => ∃ (i373 : Nat) (s371 : Unit) (S372 : List Nat), i373 + n = (p1).length ∧ Rep 56 [(0, .pointer (some ⟨b4, 0, none⟩)), (1, .slice a2 (p1).length c3), (26, .slice a2 (p1).length c3), (27, .int .i64 (((p1).length) : Int)), (28, .int .i64 (i373 : Int))] a ∧ St w (fp [itI R_t24 [.pointer (some ⟨b4, 0, none⟩)] S0 p0]) w1 [itI R_t24 [.pointer (some ⟨b4, 0, none⟩)] S372 p0] ∧ forN (refs_Refs_Drop_l2 p0 p1) (fun (s371 : Unit) => (.inl ())) n i373 s371 = some o297) ((p1).length) (fun a ha => ⟨0, (), S0, Nat.zero_add _, ha.agrees (by kernel_rfl), hst.keep [0] rfl, ho298⟩) ?_
      rintro n369 a w1 ⟨i373, s371, S372, hi374, ha, hst, hl370⟩
      refine CW.go ?_ ha
      refine CW.seq ?_
      refine CW.region ?_
      refine OW.pure 1 [(29, .bool (decide ((i373 : Int) < (((p1).length) : Int))))] (by kernel_rfl) ?_
      refine OW.nil rfl ?_
      refine QW.next ?_
      refine CW.seq ?_
      rcases Bool.eq_false_or_eq_true (decide ((i373 : Int) < (((p1).length) : Int))) with hc375 | hc375
      · rcases n369 with _ | n369
        · exact (cnt0 hi374 hc375).elim
        refine CW.cond_t rfl hc375 ?_
        refine CW.skip ?_
        refine QW.next ?_
        refine CW.seq ?_
        refine CW.block ?_
        refine CW.seq ?_
        refine CW.region ?_
        obtain ⟨x382, hx383, hl370⟩ := bind_some' hl370
        obtain ⟨g385, o386, c387, hv384⟩ := h1.formv (fun _ => ⟨_, rfl⟩) hx383
        refine OW.idx 3 1 rfl rfl rfl rfl hv384 rfl (idx_some hx383).1 (idx_some hx383).2.1 (by kernel_rfl) (by kernel_rfl) ?_
        refine OW.ld rfl rfl rfl rfl (by kernel_rfl) (h1.cellv hst hx383 hv384 0 _ rfl) ?_
        refine OW.pure 1 [(8, .int .i64 x382)] (by kernel_rfl) ?_
        refine OW.nil rfl ?_
        refine QW.next ?_
        refine CW.seq ?_
        obtain ⟨v388, S389, hst⟩ := hst.openQ1 0 rfl rfl
        obtain ⟨r390, rfl, hst⟩ := hst.toMN1 1 rfl
        have hst : St _ _ _ [blkI b4 43 [.int .i64 p0.maps, .map (some r390)], _] := hst
        refine CW.region ?_
        refine OW.pure 3 [(35, .pointer (some ⟨b4, 1, none⟩))] (by kernel_rfl) ?_
        refine OW.ld rfl rfl rfl rfl (by kernel_rfl) (hst.blk 0 rfl rfl) ?_
        refine OW.pure 1 [(37, .int .i64 x382)] (by kernel_rfl) ?_
        refine OW.mlook (tk := 3) (te := 28) (kd := .i64) R_t28 (fun o => o.getD []) hst 1 rfl rfl rfl rfl rfl rfl (by kernel_rfl) (by kernel_rfl) (.slice none 0 0) (by kernel_rfl) (fun w => ⟨_, rfl, rfl, Owns.nil w _ _ none⟩) (fun _ _ _ _ h => h) (fun _ _ _ _ h => h) ?_
        intro v397 S398 S399 hst
        have hst := hst.toRow1 2 rfl
        obtain ⟨l400, a401, c402, rfl⟩ := hst.len 2 rfl
        refine OW.pure 5 [(10, .bool ((mget p0.held x382).isSome))] (by kernel_rfl) ?_
        refine OW.nil rfl ?_
        refine QW.next ?_
        refine CW.seq ?_
        refine CW.region ?_
        refine OW.pure 2 [(42, .bool (!(mget p0.held x382).isSome))] (by kernel_rfl) ?_
        refine OW.nil rfl ?_
        refine QW.next ?_
        rcases Bool.eq_false_or_eq_true ((!(mget p0.held x382).isSome)) with hc403 | hc403
        · have hl370 := ite_t hl370 hc403
          refine CW.cond_t rfl hc403 ?_
          refine CW.seq ?_
          refine CW.region ?_
          refine OW.pure 1 [(4, .int .i64 41)] (by kernel_rfl) ?_
          refine OW.nil rfl ?_
          refine QW.next ?_
          refine CW.ret ?_
          refine QW.block_ret ?_
          refine QW.then_ret ?_
          refine QW.then_ret ?_
          refine QW.block_ret ?_
          refine QW.then_ret ?_
          have hst := hst.toIt 2 rfl (fun _ => rfl) (by decide)
          obtain ⟨S404, hst⟩ := hst.mback0 (f := (fun o => o.getD [])) 1 2 rfl rfl rfl (fun _ _ _ _ h => h)
          have hst := hst.keep [0, 1] rfl
          have hst := hst.ofMN 1 rfl
          obtain ⟨S405, hst⟩ := hst.shutP1 R_t43 rfl 0 1 [] rfl rfl rfl p0 rfl rfl
          obtain rfl := Option.some.inj hl370
          obtain rfl := Option.some.inj hF
          refine QW.ret1 rfl rfl ?_
          exact ⟨S405, rfl, hst.keep [0] rfl⟩
        · have hl370 := ite_f hl370 hc403
          refine CW.cond_f rfl hc403 ?_
          refine CW.skip ?_
          refine QW.block_normal ?_
          refine QW.next ?_
          refine CW.region ?_
          refine OW.pure 2 [(28, .int .i64 (w64 ((i373 : Int) + 1)))] (by kernel_rfl) ?_
          refine OW.nil rfl ?_
          have hst := hst.toIt 2 rfl (fun _ => rfl) (by decide)
          obtain ⟨S406, hst⟩ := hst.mback0 (f := (fun o => o.getD [])) 1 2 rfl rfl rfl (fun _ _ _ _ h => h)
          have hst := hst.keep [0, 1] rfl
          have hst := hst.ofMN 1 rfl
          obtain ⟨S407, hst⟩ := hst.shutP1 R_t43 rfl 0 1 [] rfl rfl rfl p0 rfl rfl
          refine QW.say 28 rfl (congrArg (Value.int .i64) (w64_cnt hc375 l1)) ?_
          exact QW.meet (fun a ha => ⟨n369, Nat.lt_succ_self _, i373 + 1, (), S407, cnt_next hi374, ha.agrees (by kernel_rfl), hst.keep [0] rfl, hl370⟩)
      · rcases n369 with _ | n369
        · refine CW.cond_f rfl hc375 ?_
          refine CW.exit ?_
          refine QW.then_exit ?_
          refine QW.then_exit ?_
          refine QW.block_here ?_
          obtain rfl := Option.some.inj hl370
          exact QW.meet (fun a ha => ⟨(), S372, rfl, ha.agrees (by kernel_rfl), hst.keep [0] rfl⟩)
        · exact (cnt1 hi374 hc375).elim
    · rintro a w1 ⟨t299, S296, rfl, ha, hst⟩
      refine CW.go ?_ ha
      refine CW.seq ?_
      refine CW.seq ?_
      refine CW.region ?_
      refine OW.pure 3 [(44, .slice a2 (p1).length c3), (45, .int .i64 (((p1).length) : Int)), (46, .int .i64 0)] (by kernel_rfl) ?_
      refine OW.nil rfl ?_
      refine QW.next ?_
      obtain ⟨o481, ho482, hF⟩ := bind_some' hF
      refine CW.cutK (fun a w1 => ∃ (S480 : List Nat), Rep 56 [] a ∧ St w (fp [itI R_t24 [.pointer (some ⟨b4, 0, none⟩)] S0 p0]) w1 [itI R_t24 [.pointer (some ⟨b4, 0, none⟩)] S480 o481]) ?_ ?_
      · refine CW.block ?_
        refine CW.loop (fun n a w1 => ∃ (i532 : Nat) (s530 : refs_Refs) (S531 : List Nat), i532 + n = (p1).length ∧ Rep 56 [(0, .pointer (some ⟨b4, 0, none⟩)), (44, .slice a2 (p1).length c3), (45, .int .i64 (((p1).length) : Int)), (46, .int .i64 (i532 : Int))] a ∧ St w (fp [itI R_t24 [.pointer (some ⟨b4, 0, none⟩)] S0 p0]) w1 [itI R_t24 [.pointer (some ⟨b4, 0, none⟩)] S531 s530] ∧ forN (refs_Refs_Drop_l3 p1) (fun (s530 : refs_Refs) => s530) n i532 s530 = some o481) ((p1).length) (fun a ha => ⟨0, p0, S296, Nat.zero_add _, ha.agrees (by kernel_rfl), hst.keep [0] rfl, ho482⟩) ?_
        rintro n528 a w1 ⟨i532, s530, S531, hi533, ha, hst, hl529⟩
        refine CW.go ?_ ha
        refine CW.seq ?_
        refine CW.region ?_
        refine OW.pure 1 [(47, .bool (decide ((i532 : Int) < (((p1).length) : Int))))] (by kernel_rfl) ?_
        refine OW.nil rfl ?_
        refine QW.next ?_
        refine CW.seq ?_
        rcases Bool.eq_false_or_eq_true (decide ((i532 : Int) < (((p1).length) : Int))) with hc534 | hc534
        · rcases n528 with _ | n528
          · exact (cnt0 hi533 hc534).elim
          refine CW.cond_t rfl hc534 ?_
          refine CW.skip ?_
          refine QW.next ?_
          refine CW.seq ?_
          refine CW.block ?_
          refine CW.seq ?_
          refine CW.region ?_
          obtain ⟨x541, hx542, hl529⟩ := bind_some' hl529
          obtain ⟨g544, o545, c546, hv543⟩ := h1.formv (fun _ => ⟨_, rfl⟩) hx542
          refine OW.idx 3 1 rfl rfl rfl rfl hv543 rfl (idx_some hx542).1 (idx_some hx542).2.1 (by kernel_rfl) (by kernel_rfl) ?_
          refine OW.ld rfl rfl rfl rfl (by kernel_rfl) (h1.cellv hst hx542 hv543 0 _ rfl) ?_
          refine OW.pure 1 [(12, .int .i64 x541)] (by kernel_rfl) ?_
          refine OW.nil rfl ?_
          refine QW.next ?_
          obtain ⟨v547, S548, hst⟩ := hst.openQ1 0 rfl rfl
          obtain ⟨r549, rfl, hst⟩ := hst.toMN1 1 rfl
          have hst : St _ _ _ [blkI b4 43 [.int .i64 s530.maps, .map (some r549)], _] := hst
          refine CW.region ?_
          refine OW.pure 3 [(52, .pointer (some ⟨b4, 1, none⟩))] (by kernel_rfl) ?_
          refine OW.ld rfl rfl rfl rfl (by kernel_rfl) (hst.blk 0 rfl rfl) ?_
          refine OW.pure 1 [(54, .int .i64 x541)] (by kernel_rfl) ?_
          refine OW.mdelN (tk := 3) (te := 28) (kd := .i64) hst 1 rfl rfl rfl rfl rfl rfl (by kernel_rfl) (by kernel_rfl) ?_
          intro S553 w552 hst
          refine OW.nil rfl ?_
          refine QW.block_normal ?_
          refine QW.next ?_
          refine CW.region ?_
          refine OW.pure 2 [(46, .int .i64 (w64 ((i532 : Int) + 1)))] (by kernel_rfl) ?_
          refine OW.nil rfl ?_
          have hst := hst.ofMN 1 rfl
          obtain ⟨S554, hst⟩ := hst.shutP1 R_t43 rfl 0 1 [] rfl rfl rfl (refs_Refs.mk s530.maps (mdel s530.held x541)) rfl rfl
          refine QW.say 46 rfl (congrArg (Value.int .i64) (w64_cnt hc534 l1)) ?_
          exact QW.meet (fun a ha => ⟨n528, Nat.lt_succ_self _, i532 + 1, (refs_Refs.mk s530.maps (mdel s530.held x541)), S554, cnt_next hi533, ha.agrees (by kernel_rfl), hst.keep [0] rfl, hl529⟩)
        · rcases n528 with _ | n528
          · refine CW.cond_f rfl hc534 ?_
            refine CW.exit ?_
            refine QW.then_exit ?_
            refine QW.then_exit ?_
            refine QW.block_here ?_
            obtain rfl := Option.some.inj hl529
            exact QW.meet (fun a ha => ⟨S531, ha.agrees (by kernel_rfl), hst.keep [0] rfl⟩)
          · exact (cnt1 hi533 hc534).elim
      · rintro a w1 ⟨S480, ha, hst⟩
        refine CW.go ?_ ha
        refine CW.seq ?_
        refine CW.region ?_
        refine OW.pure 1 [(4, .int .i64 0)] (by kernel_rfl) ?_
        refine OW.nil rfl ?_
        refine QW.next ?_
        refine CW.ret ?_
        obtain rfl := Option.some.inj hF
        refine QW.ret1 rfl rfl ?_
        exact ⟨S480, rfl, hst.keep [0] rfl⟩

set_option maxRecDepth 10000 in
theorem tappetlaw18_RefsOnce_ok (w : World) (fu : Nat) (p0 : Int) (v1 : Value) (p1 : List tappetlaw18_Op) (p2 : Int) (r : Bool) (hF : tappetlaw18_RefsOnce fu p0 p1 p2 = some r)
    (hst : St w (fp []) w []) (h1 : RdN w (fp []) v1 R_t30.rd 3 p1) :
    Calls Try.prog 3 [.int .i64 p0, v1, .int .i64 p2].toArray w (fun e w' => e = .returned (.bool r) ∧ St w (fp []) w' []) := by
  refine CW.start (N := 189) Try.func3 rfl rfl rfl ?_
  obtain ⟨l1, a2, c3, rfl⟩ := h1.len
  refine CW.seq ?_
  refine CW.region ?_
  refine OW.pure 1 [] (by kernel_rfl) ?_
  refine OW.nil rfl ?_
  refine QW.next ?_
  refine CW.seq ?_
  refine CW.seq ?_
  refine CW.region ?_
  obtain ⟨r8, hr9, hF⟩ := bind_some' hF
  refine OW.fn rfl rfl rfl rfl (by kernel_rfl) (tappetlaw18_awake_ok _ r8 hr9 (hst.part [] rfl)) ?_
  rintro e w10 ⟨rfl, hst11⟩
  refine ⟨_, rfl, ?_⟩
  have hst := hst.join (idx := []) (rest := []) rfl hst11
  refine OW.pure 1 [(23, .bool (!r8))] (by kernel_rfl) ?_
  refine OW.nil rfl ?_
  refine QW.next ?_
  rcases Bool.eq_false_or_eq_true ((!r8)) with hc12 | hc12
  · have hF := ite_t hF hc12
    refine CW.cond_t rfl hc12 ?_
    refine CW.seq ?_
    refine CW.region ?_
    refine OW.pure 1 [(6, .bool false)] (by kernel_rfl) ?_
    refine OW.nil rfl ?_
    refine QW.next ?_
    refine CW.ret ?_
    refine QW.then_ret ?_
    obtain rfl := Option.some.inj hF
    refine QW.ret1 rfl rfl ?_
    exact ⟨rfl, hst.keep [] rfl⟩
  · have hF := ite_f hF hc12
    refine CW.cond_f rfl hc12 ?_
    refine CW.skip ?_
    refine QW.next ?_
    refine CW.seq ?_
    refine CW.region ?_
    refine OW.pure 1 [(25, .int .i64 p0)] (by kernel_rfl) ?_
    obtain ⟨r23, hr24, hF⟩ := bind_some' hF
    refine OW.fn rfl rfl rfl rfl (by kernel_rfl) (refs_New_ok _ p0 r23 hr24 (hst.part [] rfl)) ?_
    rintro e w25 (⟨k27, v29, S30, he28, rfl, hst26⟩ | ⟨he31, rfl, hst26⟩)
    · have hF := ocase_some hF he28
      refine ⟨_, rfl, ?_⟩
      have hst := hst.join (idx := []) (rest := []) rfl hst26
      obtain ⟨b32, rfl⟩ := hst.fptr 0 rfl
      refine OW.pure 5 [(7, .pointer (some ⟨b32, 0, none⟩)), (8, .int .i64 r23.2)] (by kernel_rfl) ?_
      refine OW.nil rfl ?_
      refine QW.next ?_
      refine CW.seq ?_
      refine CW.seq ?_
      refine CW.region ?_
      refine OW.pure 6 [(34, .bool (r23.2 != 0))] (by kernel_rfl) ?_
      refine OW.nil rfl ?_
      refine QW.next ?_
      rcases Bool.eq_false_or_eq_true ((r23.2 != 0)) with hc33 | hc33
      · have hF := ite_t hF hc33
        refine CW.cond_t rfl hc33 ?_
        refine CW.seq ?_
        refine CW.region ?_
        refine OW.pure 7 [(6, .bool false)] (by kernel_rfl) ?_
        refine OW.nil rfl ?_
        refine QW.next ?_
        refine CW.ret ?_
        refine QW.then_ret ?_
        obtain rfl := Option.some.inj hF
        refine QW.ret1 rfl rfl ?_
        exact ⟨rfl, hst.keep [] rfl⟩
      · have hF := ite_f hF hc33
        refine CW.cond_f rfl hc33 ?_
        refine CW.skip ?_
        refine QW.next ?_
        refine CW.seq ?_
        refine CW.seq ?_
        refine CW.region ?_
        refine OW.pure 1 [(9, .int .i64 0)] (by kernel_rfl) ?_
        refine OW.nil rfl ?_
        refine QW.next ?_
        obtain ⟨o435, ho436, hF⟩ := bind_some' hF
        refine CW.cutK (fun a w1 => ∃ (S434 : List Nat), Rep 189 [(0, .int .i64 p0), (2, .int .i64 p2), (7, .pointer (some ⟨b32, 0, none⟩))] a ∧ St w (fp []) w1 [itI R_t24 [.pointer (some ⟨b32, 0, none⟩)] S434 o435]) ?_ ?_
        · refine CW.block ?_
          refine CW.loop (fun n a w1 => ∃ (s704 : refs_Refs × Int) (S705 : List Nat), Rep 189 [(0, .int .i64 p0), (1, .slice a2 (p1).length c3), (2, .int .i64 p2), (7, .pointer (some ⟨b32, 0, none⟩)), (9, .int .i64 s704.2)] a ∧ St w (fp []) w1 [itI R_t24 [.pointer (some ⟨b32, 0, none⟩)] S705 s704.1] ∧ loop (tappetlaw18_RefsOnce_l1 p1) n s704 = some o435) fu (fun a ha => ⟨(k27, 0), S30, ha.agrees (by kernel_rfl), hst.keep [0] rfl, ho436⟩) ?_
          rintro n702 a w1 ⟨s704, S705, ha, hst, hl703⟩
          rcases n702 with _ | n702
          · exact (loop_zero hl703).elim
          refine CW.go ?_ ha
          refine CW.seq ?_
          refine CW.seq ?_
          refine CW.cutK (fun a w1 => Rep 189 [(0, .int .i64 p0), (1, .slice a2 (p1).length c3), (2, .int .i64 p2), (7, .pointer (some ⟨b32, 0, none⟩)), (9, .int .i64 s704.2), (48, .bool (decide (s704.2 < (((p1).length) : Int)) && decide (s704.2 < 300)))] a ∧ St w (fp []) w1 [itI R_t24 [.pointer (some ⟨b32, 0, none⟩)] S705 s704.1]) ?_ ?_
          · refine CW.region ?_
            refine OW.pure 5 [(45, .bool (decide (s704.2 < (((p1).length) : Int))))] (by kernel_rfl) ?_
            refine OW.split 45 rfl (fun hc706 => ?_) (fun hc706 => ?_)
            · refine OW.pure 3 [(48, .bool (decide (s704.2 < 300)))] (by kernel_rfl) ?_
              refine OW.nil rfl ?_
              refine QW.say 48 (v := .bool (decide (s704.2 < (((p1).length) : Int)) && decide (s704.2 < 300))) rfl (by first | (rw [hc706]; done) | (rw [hc706]; rfl) | simp [hc706]) ?_
              exact QW.meet (fun a ha => ⟨ha.agrees (by kernel_rfl), hst.keep [0] rfl⟩)
            · refine OW.pure 3 [(48, .bool false)] (by kernel_rfl) ?_
              refine OW.nil rfl ?_
              refine QW.say 48 (v := .bool (decide (s704.2 < (((p1).length) : Int)) && decide (s704.2 < 300))) rfl (by first | (rw [hc706]; done) | (rw [hc706]; rfl) | simp [hc706]) ?_
              exact QW.meet (fun a ha => ⟨ha.agrees (by kernel_rfl), hst.keep [0] rfl⟩)
          · rintro a w1 ⟨ha, hst⟩
            refine CW.go ?_ ha
            rcases Bool.eq_false_or_eq_true ((decide (s704.2 < (((p1).length) : Int)) && decide (s704.2 < 300))) with hc707 | hc707
            · have hl703 := ite_t hl703 hc707
              refine CW.cond_t rfl hc707 ?_
              refine CW.skip ?_
              refine QW.next ?_
              refine CW.seq ?_
              refine CW.block ?_
              refine CW.seq ?_
              refine CW.region ?_
              refine OW.pure 2 [(51, .slice a2 (p1).length c3), (52, .int .i64 s704.2)] (by kernel_rfl) ?_
              obtain ⟨x722, hx723, hl703⟩ := bind_some' hl703
              obtain ⟨g725, o726, c727, cs728, hv724, hd729, hl730⟩ := h1.formv hx723
              obtain ⟨_, rfl, ⟨v731, rfl, h732⟩⟩ := hd729
              have h732 : Rd _ _ _ _ _ x722.Maps := h732
              obtain ⟨l733, a734, c735, rfl⟩ := h732.len
              refine OW.idx 30 3 rfl rfl rfl rfl hv724 rfl (idx_some hx723).1 (idx_some hx723).2.1 (by kernel_rfl) (by kernel_rfl) ?_
              refine OW.pure 1 [(54, .pointer (some ⟨g725, o726 + Int.toNat s704.2 * 3, none⟩))] (by kernel_rfl) ?_
              refine OW.ld rfl rfl rfl rfl (by kernel_rfl) (hl730 0 _ rfl _ _ hst) ?_
              refine OW.pure 1 [(56, .bool (x722.Kind == 0))] (by kernel_rfl) ?_
              refine OW.nil rfl ?_
              refine QW.next ?_
              rcases Bool.eq_false_or_eq_true ((x722.Kind == 0)) with hc736 | hc736
              · have hl703 := ite_t hl703 hc736
                refine CW.cond_t rfl hc736 ?_
                refine CW.tail 11 (by kernel_rfl) (by kernel_rfl) ?_
                intro w768 hch769
                have hst := hst.same hch769
                refine OS.pure 3 [(57, .pointer (some ⟨b32, 0, none⟩)), (58, .slice a2 (p1).length c3), (59, .int .i64 s704.2)] rfl (by kernel_rfl) ?_
                obtain ⟨g771, o772, c773, cs774, hv770, hd775, hl776⟩ := h1.formv hx723
                obtain ⟨_, rfl, ⟨v777, rfl, h778⟩⟩ := hd775
                have h778 : Rd _ _ _ _ _ x722.Maps := h778
                obtain ⟨l779, a780, c781, rfl⟩ := h778.len
                refine OS.idx 30 3 rfl rfl rfl rfl rfl hv770 rfl (idx_some hx723).1 (idx_some hx723).2.1 (by kernel_rfl) (by kernel_rfl) ?_
                refine OS.pure 1 [(61, .pointer (some ⟨g771, o772 + Int.toNat s704.2 * 3 + 1, none⟩))] rfl (by kernel_rfl) ?_
                refine OS.ld rfl rfl rfl rfl rfl (by kernel_rfl) (hl776 1 _ rfl _ _ hst) ?_
                refine OS.pure 2 [(63, .slice a2 (p1).length c3), (64, .int .i64 s704.2)] rfl (by kernel_rfl) ?_
                obtain ⟨g783, o784, c785, cs786, hv782, hd787, hl788⟩ := h1.formv hx723
                obtain ⟨_, rfl, ⟨v789, rfl, h790⟩⟩ := hd787
                have h790 : Rd _ _ _ _ _ x722.Maps := h790
                obtain ⟨l791, a792, c793, rfl⟩ := h790.len
                refine OS.idx 30 3 rfl rfl rfl rfl rfl hv782 rfl (idx_some hx723).1 (idx_some hx723).2.1 (by kernel_rfl) (by kernel_rfl) ?_
                refine OS.pure 1 [(66, .pointer (some ⟨g783, o784 + Int.toNat s704.2 * 3 + 2, none⟩))] rfl (by kernel_rfl) ?_
                refine OS.ld rfl rfl rfl rfl rfl (by kernel_rfl) (hl788 2 _ rfl _ _ hst) ?_
                refine OS.on ?_
                obtain ⟨r794, hr795, hl703⟩ := bind_some' hl703
                refine OW.fn rfl rfl rfl rfl (by kernel_rfl) (refs_Refs_Hold_ok _ (.pointer (some ⟨b32, 0, none⟩)) S705 s704.1 x722.Prog (.slice a792 (x722.Maps).length c793) x722.Maps r794 hr795 (hst.part [0] rfl) (h790.give hst [0])) ?_
                rintro e w796 ⟨S798, rfl, hst797⟩
                refine ⟨_, rfl, ?_⟩
                have hst := hst.join (idx := [0]) (rest := []) rfl hst797
                refine OW.nil rfl ?_
                refine QW.block_normal ?_
                refine QW.next ?_
                refine CW.region ?_
                refine OW.pure 3 [(9, .int .i64 (w64 (s704.2 + 1)))] (by kernel_rfl) ?_
                refine OW.nil rfl ?_
                exact QW.meet (fun a ha => ⟨n702, Nat.lt_succ_self _, (r794.2, w64 (s704.2 + 1)), S798, ha.agrees (by kernel_rfl), hst.keep [0] rfl, hl703⟩)
              · have hl703 := ite_f hl703 hc736
                refine CW.cond_f rfl hc736 ?_
                refine CW.region ?_
                refine OW.pure 3 [(69, .pointer (some ⟨b32, 0, none⟩)), (70, .slice a2 (p1).length c3), (71, .int .i64 s704.2)] (by kernel_rfl) ?_
                obtain ⟨g819, o820, c821, cs822, hv818, hd823, hl824⟩ := h1.formv hx723
                obtain ⟨_, rfl, ⟨v825, rfl, h826⟩⟩ := hd823
                have h826 : Rd _ _ _ _ _ x722.Maps := h826
                obtain ⟨l827, a828, c829, rfl⟩ := h826.len
                refine OW.idx 30 3 rfl rfl rfl rfl hv818 rfl (idx_some hx723).1 (idx_some hx723).2.1 (by kernel_rfl) (by kernel_rfl) ?_
                refine OW.pure 1 [(73, .pointer (some ⟨g819, o820 + Int.toNat s704.2 * 3 + 1, none⟩))] (by kernel_rfl) ?_
                refine OW.ld rfl rfl rfl rfl (by kernel_rfl) (hl824 1 _ rfl _ _ hst) ?_
                refine OW.row (α := Int) (e := 3) (enc := encInt .i64) (sz := 1) hst rfl rfl rfl [x722.Prog] rfl (fun _ => rfl) rfl rfl (fun _ => by kernel_rfl) ?_
                intro g830 w831 hst
                obtain ⟨r832, hr833, hl703⟩ := bind_some' hl703
                refine OW.fn rfl rfl rfl rfl (by kernel_rfl) (refs_Refs_Drop_ok _ (.pointer (some ⟨b32, 0, none⟩)) S705 s704.1 (.slice (some ⟨g830, 0, none⟩) 1 1) ([x722.Prog]) r832 hr833 (hst.part [0] rfl) (hst.rd 1 rfl (fun _ => rfl) [0] rfl (hst.len 1 rfl).1)) ?_
                rintro e w834 ⟨S836, rfl, hst835⟩
                refine ⟨_, rfl, ?_⟩
                have hst := hst.join (idx := [0]) (rest := [1]) rfl hst835
                refine OW.nil rfl ?_
                refine QW.block_normal ?_
                refine QW.next ?_
                refine CW.region ?_
                refine OW.pure 3 [(9, .int .i64 (w64 (s704.2 + 1)))] (by kernel_rfl) ?_
                refine OW.nil rfl ?_
                exact QW.meet (fun a ha => ⟨n702, Nat.lt_succ_self _, (r832.2, w64 (s704.2 + 1)), S836, ha.agrees (by kernel_rfl), hst.keep [0] rfl, hl703⟩)
            · have hl703 := ite_f hl703 hc707
              refine CW.cond_f rfl hc707 ?_
              refine CW.exit ?_
              refine QW.then_exit ?_
              refine QW.then_exit ?_
              refine QW.block_here ?_
              obtain rfl := Option.some.inj hl703
              exact QW.meet (fun a ha => ⟨S705, ha.agrees (by kernel_rfl), hst.keep [0] rfl⟩)
        · rintro a w1 ⟨S434, ha, hst⟩
          refine CW.go ?_ ha
          refine CW.seq ?_
          refine CW.region ?_
          refine OW.pure 2 [(77, .pointer (some ⟨b32, 0, none⟩)), (78, .int .i64 p2)] (by kernel_rfl) ?_
          refine OW.row (α := Int) (e := 3) (enc := encInt .i64) (sz := 1) hst rfl rfl rfl [p2] rfl (fun _ => rfl) rfl rfl (fun _ => by kernel_rfl) ?_
          intro g844 w845 hst
          obtain ⟨r846, hr847, hF⟩ := bind_some' hF
          refine OW.fn rfl rfl rfl rfl (by kernel_rfl) (refs_Refs_Drop_ok _ (.pointer (some ⟨b32, 0, none⟩)) S434 o435 (.slice (some ⟨g844, 0, none⟩) 1 1) ([p2]) r846 hr847 (hst.part [0] rfl) (hst.rd 1 rfl (fun _ => rfl) [0] rfl (hst.len 1 rfl).1)) ?_
          rintro e w848 ⟨S850, rfl, hst849⟩
          refine ⟨_, rfl, ?_⟩
          have hst := hst.join (idx := [0]) (rest := [1]) rfl hst849
          refine OW.nil rfl ?_
          refine QW.next ?_
          refine CW.seq ?_
          refine CW.region ?_
          refine OW.pure 2 [(10, .slice none 0 0), (11, .slice none 0 0)] (by kernel_rfl) ?_
          refine OW.nil rfl ?_
          refine QW.next ?_
          refine CW.seq ?_
          refine CW.seq ?_
          refine CW.region ?_
          refine OW.pure 1 [(12, .int .i64 0)] (by kernel_rfl) ?_
          refine OW.nil rfl ?_
          refine QW.next ?_
          obtain ⟨o1033, ho1034, hF⟩ := bind_some' hF
          refine CW.cutK (fun a w1 => ∃ (S1030 : List Nat) (v1031 : Value) (v1032 : Value), Rep 189 [(0, .int .i64 p0), (2, .int .i64 p2), (7, .pointer (some ⟨b32, 0, none⟩)), (10, v1031), (11, v1032)] a ∧ St w (fp []) w1 [itI R_t24 [.pointer (some ⟨b32, 0, none⟩)] S1030 r846.2, rowI v1031 3 (encInt .i64) 1 o1033.1, rowI v1032 3 (encInt .i64) 1 o1033.2]) ?_ ?_
          · refine CW.block ?_
            have hst := hst.nilRow Int 3 (encInt .i64) 1
            have hst := hst.nilRow Int 3 (encInt .i64) 1
            refine CW.loop (fun n a w1 => ∃ (s1154 : (List Int) × (List Int) × Int) (S1155 : List Nat) (v1156 : Value) (v1157 : Value), Rep 189 [(0, .int .i64 p0), (2, .int .i64 p2), (7, .pointer (some ⟨b32, 0, none⟩)), (10, v1156), (11, v1157), (12, .int .i64 s1154.2.2)] a ∧ St w (fp []) w1 [itI R_t24 [.pointer (some ⟨b32, 0, none⟩)] S1155 r846.2, rowI v1156 3 (encInt .i64) 1 s1154.1, rowI v1157 3 (encInt .i64) 1 s1154.2.1] ∧ loop (tappetlaw18_RefsOnce_l2 p0 p2 r846) n s1154 = some o1033) fu (fun a ha => ⟨(([] : List Int), ([] : List Int), 0), S850, (.slice none 0 0), (.slice none 0 0), ha.agrees (by kernel_rfl), hst.keep [0, 2, 3] rfl, ho1034⟩) ?_
            rintro n1152 a w1 ⟨s1154, S1155, v1156, v1157, ha, hst, hl1153⟩
            rcases n1152 with _ | n1152
            · exact (loop_zero hl1153).elim
            refine CW.go ?_ ha
            obtain ⟨l1158, a1159, c1160, rfl⟩ := hst.len 1 rfl
            obtain ⟨l1161, a1162, c1163, rfl⟩ := hst.len 2 rfl
            refine CW.seq ?_
            refine CW.seq ?_
            refine CW.region ?_
            refine OW.pure 3 [(83, .bool (decide (s1154.2.2 < p0)))] (by kernel_rfl) ?_
            refine OW.nil rfl ?_
            refine QW.next ?_
            rcases Bool.eq_false_or_eq_true (decide (s1154.2.2 < p0)) with hc1164 | hc1164
            · have hl1153 := ite_t hl1153 hc1164
              refine CW.cond_t rfl hc1164 ?_
              refine CW.skip ?_
              refine QW.next ?_
              refine CW.seq ?_
              refine CW.block ?_
              refine CW.seq ?_
              refine CW.region ?_
              refine OW.pure 2 [(87, .pointer (some ⟨b32, 0, none⟩)), (88, .int .i64 s1154.2.2)] (by kernel_rfl) ?_
              obtain ⟨r1170, hr1171, hl1153⟩ := bind_some' hl1153
              refine OW.fn rfl rfl rfl rfl (by kernel_rfl) (refs_Refs_Count_ok _ (.pointer (some ⟨b32, 0, none⟩)) S1155 r846.2 s1154.2.2 r1170 hr1171 (hst.part [0] rfl)) ?_
              rintro e w1172 ⟨S1174, rfl, hst1173⟩
              refine ⟨_, rfl, ?_⟩
              have hst := hst.join (idx := [0]) (rest := [1, 2]) rfl hst1173
              refine OW.pure 5 [(13, .int .i64 r1170.1)] (by kernel_rfl) ?_
              refine OW.nil rfl ?_
              refine QW.next ?_
              refine CW.seq ?_
              refine CW.region ?_
              refine OW.pure 2 [(92, .slice a1162 (s1154.2.1).length c1163), (93, .int .i64 r1170.1)] (by kernel_rfl) ?_
              refine OW.row (α := Int) (e := 3) (enc := encInt .i64) (sz := 1) hst rfl rfl rfl [r1170.1] rfl (fun _ => rfl) rfl rfl (fun _ => by kernel_rfl) ?_
              intro g1184 w1185 hst
              obtain ⟨u1186, hr1187, hl1153⟩ := bind_some' hl1153
              refine OW.app hst 2 rfl (fun _ => rfl) (fun _ => rfl) rfl rfl rfl rfl rfl rfl (by kernel_rfl) el3 (hst.rd 3 rfl (fun _ => rfl) [] rfl (hst.len 3 rfl).1) (room_le hr1187) ?_
              intro v1188 w1189 hst
              obtain ⟨l1190, a1191, c1192, rfl⟩ := hst.len 2 rfl
              refine OW.pure 1 [(11, .slice a1191 ((s1154.2.1 ++ [r1170.1])).length c1192)] (by kernel_rfl) ?_
              refine OW.nil rfl ?_
              refine QW.next ?_
              refine CW.seq ?_
              refine CW.region ?_
              refine OW.pure 4 [(99, .bool (s1154.2.2 != (p2.tmod 4)))] (by kernel_rfl) ?_
              refine OW.nil rfl ?_
              refine QW.next ?_
              rcases Bool.eq_false_or_eq_true ((s1154.2.2 != (p2.tmod 4))) with hc1193 | hc1193
              · have hl1153 := ite_t hl1153 hc1193
                refine CW.cond_t rfl hc1193 ?_
                refine CW.region ?_
                refine OW.pure 2 [(100, .slice a1159 (s1154.1).length c1160), (101, .int .i64 s1154.2.2)] (by kernel_rfl) ?_
                refine OW.row (α := Int) (e := 3) (enc := encInt .i64) (sz := 1) hst rfl rfl rfl [s1154.2.2] rfl (fun _ => rfl) rfl rfl (fun _ => by kernel_rfl) ?_
                intro g1203 w1204 hst
                obtain ⟨u1205, hr1206, hl1153⟩ := bind_some' hl1153
                refine OW.app hst 1 rfl (fun _ => rfl) (fun _ => rfl) rfl rfl rfl rfl rfl rfl (by kernel_rfl) el3 (hst.rd 4 rfl (fun _ => rfl) [] rfl (hst.len 4 rfl).1) (room_le hr1206) ?_
                intro v1207 w1208 hst
                obtain ⟨l1209, a1210, c1211, rfl⟩ := hst.len 1 rfl
                refine OW.pure 1 [(10, .slice a1210 ((s1154.1 ++ [s1154.2.2])).length c1211)] (by kernel_rfl) ?_
                refine OW.nil rfl ?_
                refine QW.block_normal ?_
                refine QW.next ?_
                refine CW.region ?_
                refine OW.pure 3 [(12, .int .i64 (w64 (s1154.2.2 + 1)))] (by kernel_rfl) ?_
                refine OW.nil rfl ?_
                exact QW.meet (fun a ha => ⟨n1152, Nat.lt_succ_self _, ((s1154.1 ++ [s1154.2.2]), (s1154.2.1 ++ [r1170.1]), w64 (s1154.2.2 + 1)), S1174, (.slice a1210 ((s1154.1 ++ [s1154.2.2])).length c1211), (.slice a1191 ((s1154.2.1 ++ [r1170.1])).length c1192), ha.agrees (by kernel_rfl), hst.keep [0, 1, 2] rfl, hl1153⟩)
              · have hl1153 := ite_f hl1153 hc1193
                refine CW.cond_f rfl hc1193 ?_
                refine CW.skip ?_
                refine QW.block_normal ?_
                refine QW.next ?_
                refine CW.region ?_
                refine OW.pure 3 [(12, .int .i64 (w64 (s1154.2.2 + 1)))] (by kernel_rfl) ?_
                refine OW.nil rfl ?_
                exact QW.meet (fun a ha => ⟨n1152, Nat.lt_succ_self _, (s1154.1, (s1154.2.1 ++ [r1170.1]), w64 (s1154.2.2 + 1)), S1174, (.slice a1159 (s1154.1).length c1160), (.slice a1191 ((s1154.2.1 ++ [r1170.1])).length c1192), ha.agrees (by kernel_rfl), hst.keep [0, 1, 2] rfl, hl1153⟩)
            · have hl1153 := ite_f hl1153 hc1164
              refine CW.cond_f rfl hc1164 ?_
              refine CW.exit ?_
              refine QW.then_exit ?_
              refine QW.then_exit ?_
              refine QW.block_here ?_
              obtain rfl := Option.some.inj hl1153
              exact QW.meet (fun a ha => ⟨S1155, (.slice a1159 (s1154.1).length c1160), (.slice a1162 (s1154.2.1).length c1163), ha.agrees (by kernel_rfl), hst.keep [0, 1, 2] rfl⟩)
          · rintro a w1 ⟨S1030, v1031, v1032, ha, hst⟩
            refine CW.go ?_ ha
            obtain ⟨l1218, a1219, c1220, rfl⟩ := hst.len 1 rfl
            obtain ⟨l1221, a1222, c1223, rfl⟩ := hst.len 2 rfl
            refine CW.seq ?_
            refine CW.seq ?_
            obtain ⟨o1241, ho1242, hF⟩ := bind_some' hF
            refine CW.cutK (fun a w1 => ∃ (S1240 : List Nat), Rep 189 [(0, .int .i64 p0), (2, .int .i64 p2), (7, .pointer (some ⟨b32, 0, none⟩)), (11, .slice a1222 (o1033.2).length c1223), (115, .bool o1241.2)] a ∧ St w (fp []) w1 [itI R_t24 [.pointer (some ⟨b32, 0, none⟩)] S1240 o1241.1, rowI (.slice a1222 (o1033.2).length c1223) 3 (encInt .i64) 1 o1033.2]) ?_ ?_
            · refine CW.region ?_
              refine OW.pure 3 [(104, .pointer (some ⟨b32, 0, none⟩)), (105, .int .i64 p2), (106, .slice a1219 (o1033.1).length c1220)] (by kernel_rfl) ?_
              obtain ⟨r1243, hr1244, ho1242⟩ := bind_some' ho1242
              refine OW.fn rfl rfl rfl rfl (by kernel_rfl) (refs_Refs_Hold_ok _ (.pointer (some ⟨b32, 0, none⟩)) S1030 r846.2 p2 (.slice a1219 (o1033.1).length c1220) o1033.1 r1243 hr1244 (hst.part [0] rfl) (hst.rd 1 rfl (fun _ => rfl) [0] rfl (hst.len 1 rfl).1)) ?_
              rintro e w1245 ⟨S1247, rfl, hst1246⟩
              refine ⟨_, rfl, ?_⟩
              have hst := hst.join (idx := [0]) (rest := [1, 2]) rfl hst1246
              refine OW.pure 2 [(109, .bool (r1243.1 != 0))] (by kernel_rfl) ?_
              refine OW.split 109 rfl (fun hc1248 => ?_) (fun hc1248 => ?_)
              · have ho1242 := ite_t ho1242 hc1248
                refine OW.pure 6 [(115, .bool true)] (by kernel_rfl) ?_
                refine OW.nil rfl ?_
                obtain rfl := Option.some.inj ho1242
                exact QW.meet (fun a ha => ⟨S1247, ha.agrees (by kernel_rfl), hst.keep [0, 2] rfl⟩)
              · have ho1242 := ite_f ho1242 hc1248
                refine OW.pure 3 [(110, .pointer (some ⟨b32, 0, none⟩)), (111, .int .i64 p2), (112, .slice a1219 (o1033.1).length c1220)] (by kernel_rfl) ?_
                obtain ⟨r1249, hr1250, ho1242⟩ := bind_some' ho1242
                refine OW.fn rfl rfl rfl rfl (by kernel_rfl) (refs_Refs_Hold_ok _ (.pointer (some ⟨b32, 0, none⟩)) S1247 r1243.2 p2 (.slice a1219 (o1033.1).length c1220) o1033.1 r1249 hr1250 (hst.part [0] rfl) (hst.rd 1 rfl (fun _ => rfl) [0] rfl (hst.len 1 rfl).1)) ?_
                rintro e w1251 ⟨S1253, rfl, hst1252⟩
                refine ⟨_, rfl, ?_⟩
                have hst := hst.join (idx := [0]) (rest := [1, 2]) rfl hst1252
                refine OW.pure 2 [(115, .bool (r1249.1 != 42))] (by kernel_rfl) ?_
                refine OW.nil rfl ?_
                obtain rfl := Option.some.inj ho1242
                exact QW.meet (fun a ha => ⟨S1253, ha.agrees (by kernel_rfl), hst.keep [0, 2] rfl⟩)
            · rintro a w1 ⟨S1240, ha, hst⟩
              refine CW.go ?_ ha
              rcases Bool.eq_false_or_eq_true (o1241.2) with hc1254 | hc1254
              · have hF := ite_t hF hc1254
                refine CW.cond_t rfl hc1254 ?_
                refine CW.seq ?_
                refine CW.region ?_
                refine OW.pure 1 [(6, .bool false)] (by kernel_rfl) ?_
                refine OW.nil rfl ?_
                refine QW.next ?_
                refine CW.ret ?_
                refine QW.then_ret ?_
                obtain rfl := Option.some.inj hF
                refine QW.ret1 rfl rfl ?_
                exact ⟨rfl, hst.keep [] rfl⟩
              · have hF := ite_f hF hc1254
                refine CW.cond_f rfl hc1254 ?_
                refine CW.skip ?_
                refine QW.next ?_
                refine CW.seq ?_
                refine CW.seq ?_
                refine CW.region ?_
                refine OW.pure 1 [(15, .int .i64 0)] (by kernel_rfl) ?_
                refine OW.nil rfl ?_
                refine QW.next ?_
                obtain ⟨o1434, ho1435, hF⟩ := bind_some' hF
                refine CW.cutK (fun a w1 => ∃ (t1436 : Unit) (S1433 : List Nat), o1434 = .inl t1436 ∧ Rep 189 [(0, .int .i64 p0), (2, .int .i64 p2), (7, .pointer (some ⟨b32, 0, none⟩)), (11, .slice a1222 (o1033.2).length c1223)] a ∧ St w (fp []) w1 [itI R_t24 [.pointer (some ⟨b32, 0, none⟩)] S1433 o1241.1, rowI (.slice a1222 (o1033.2).length c1223) 3 (encInt .i64) 1 o1033.2]) ?_ ?_
                · refine CW.block ?_
                  refine CW.loop (fun n a w1 => ∃ (s1556 : Int) (S1557 : List Nat), Rep 189 [(0, .int .i64 p0), (2, .int .i64 p2), (7, .pointer (some ⟨b32, 0, none⟩)), (11, .slice a1222 (o1033.2).length c1223), (15, .int .i64 s1556)] a ∧ St w (fp []) w1 [itI R_t24 [.pointer (some ⟨b32, 0, none⟩)] S1557 o1241.1, rowI (.slice a1222 (o1033.2).length c1223) 3 (encInt .i64) 1 o1033.2] ∧ loop (tappetlaw18_RefsOnce_l3 p0 p2 o1033 o1241) n s1556 = some o1434) fu (fun a ha => ⟨0, S1240, ha.agrees (by kernel_rfl), hst.keep [0, 1] rfl, ho1435⟩) ?_
                  rintro n1554 a w1 ⟨s1556, S1557, ha, hst, hl1555⟩
                  rcases n1554 with _ | n1554
                  · exact (loop_zero hl1555).elim
                  refine CW.go ?_ ha
                  refine CW.seq ?_
                  refine CW.seq ?_
                  refine CW.region ?_
                  refine OW.pure 3 [(118, .bool (decide (s1556 < p0)))] (by kernel_rfl) ?_
                  refine OW.nil rfl ?_
                  refine QW.next ?_
                  rcases Bool.eq_false_or_eq_true (decide (s1556 < p0)) with hc1558 | hc1558
                  · have hl1555 := ite_t hl1555 hc1558
                    refine CW.cond_t rfl hc1558 ?_
                    refine CW.skip ?_
                    refine QW.next ?_
                    refine CW.seq ?_
                    refine CW.block ?_
                    refine CW.seq ?_
                    refine CW.region ?_
                    refine OW.pure 2 [(122, .pointer (some ⟨b32, 0, none⟩)), (123, .int .i64 s1556)] (by kernel_rfl) ?_
                    obtain ⟨r1564, hr1565, hl1555⟩ := bind_some' hl1555
                    refine OW.fn rfl rfl rfl rfl (by kernel_rfl) (refs_Refs_Count_ok _ (.pointer (some ⟨b32, 0, none⟩)) S1557 o1241.1 s1556 r1564 hr1565 (hst.part [0] rfl)) ?_
                    rintro e w1566 ⟨S1568, rfl, hst1567⟩
                    refine ⟨_, rfl, ?_⟩
                    have hst := hst.join (idx := [0]) (rest := [1]) rfl hst1567
                    refine OW.pure 5 [(16, .int .i64 r1564.1)] (by kernel_rfl) ?_
                    refine OW.nil rfl ?_
                    refine QW.next ?_
                    refine CW.seq ?_
                    refine CW.region ?_
                    refine OW.pure 1 [(18, .int .i64 1)] (by kernel_rfl) ?_
                    refine OW.nil rfl ?_
                    refine QW.next ?_
                    refine CW.seq ?_
                    refine CW.seq ?_
                    refine CW.region ?_
                    refine OW.pure 4 [(130, .bool (s1556 == (p2.tmod 4)))] (by kernel_rfl) ?_
                    refine OW.nil rfl ?_
                    refine QW.next ?_
                    obtain ⟨o1570, ho1571, hl1555⟩ := bind_some' hl1555
                    refine CW.cutK (fun a w1 => Rep 189 [(0, .int .i64 p0), (2, .int .i64 p2), (7, .pointer (some ⟨b32, 0, none⟩)), (11, .slice a1222 (o1033.2).length c1223), (15, .int .i64 s1556), (16, .int .i64 r1564.1), (18, .int .i64 o1570)] a ∧ St w (fp []) w1 [itI R_t24 [.pointer (some ⟨b32, 0, none⟩)] S1568 o1241.1, rowI (.slice a1222 (o1033.2).length c1223) 3 (encInt .i64) 1 o1033.2]) ?_ ?_
                    · rcases Bool.eq_false_or_eq_true ((s1556 == (p2.tmod 4))) with hc1572 | hc1572
                      · have ho1571 := ite_t ho1571 hc1572
                        refine CW.cond_t rfl hc1572 ?_
                        refine CW.region ?_
                        refine OW.pure 1 [(18, .int .i64 0)] (by kernel_rfl) ?_
                        refine OW.nil rfl ?_
                        obtain rfl := Option.some.inj ho1571
                        exact QW.meet (fun a ha => ⟨ha.agrees (by kernel_rfl), hst.keep [0, 1] rfl⟩)
                      · have ho1571 := ite_f ho1571 hc1572
                        refine CW.cond_f rfl hc1572 ?_
                        refine CW.skip ?_
                        obtain rfl := Option.some.inj ho1571
                        exact QW.meet (fun a ha => ⟨ha.agrees (by kernel_rfl), hst.keep [0, 1] rfl⟩)
                    · rintro a w1 ⟨ha, hst⟩
                      refine CW.go ?_ ha
                      refine CW.seq ?_
                      obtain ⟨o1596, ho1597, hl1555⟩ := bind_some' hl1555
                      refine CW.cutK (fun a w1 => ∃ (S1595 : List Nat), Rep 189 [(0, .int .i64 p0), (2, .int .i64 p2), (7, .pointer (some ⟨b32, 0, none⟩)), (11, .slice a1222 (o1033.2).length c1223), (15, .int .i64 s1556), (146, .bool o1596)] a ∧ St w (fp []) w1 [itI R_t24 [.pointer (some ⟨b32, 0, none⟩)] S1595 o1241.1, rowI (.slice a1222 (o1033.2).length c1223) 3 (encInt .i64) 1 o1033.2]) ?_ ?_
                      · refine CW.region ?_
                        refine OW.pure 3 [(131, .int .i64 r1564.1), (132, .slice a1222 (o1033.2).length c1223), (133, .int .i64 s1556)] (by kernel_rfl) ?_
                        obtain ⟨x1598, hx1599, ho1597⟩ := bind_some' ho1597
                        obtain ⟨g1601, o1602, c1603, hv1600⟩ := hst.rowv 1 rfl hx1599
                        refine OW.idx 3 1 rfl rfl rfl rfl hv1600 rfl (idx_some hx1599).1 (idx_some hx1599).2.1 (by kernel_rfl) (by kernel_rfl) ?_
                        refine OW.ld rfl rfl rfl rfl (by kernel_rfl) (hst.rowc 1 rfl (fun _ => rfl) hx1599 hv1600 0 _ rfl) ?_
                        refine OW.pure 4 [(139, .bool (r1564.1 != (w64 (x1598 + o1570))))] (by kernel_rfl) ?_
                        refine OW.split 139 rfl (fun hc1604 => ?_) (fun hc1604 => ?_)
                        · have ho1597 := ite_t ho1597 hc1604
                          refine OW.pure 7 [(146, .bool true)] (by kernel_rfl) ?_
                          refine OW.nil rfl ?_
                          obtain rfl := Option.some.inj ho1597
                          exact QW.meet (fun a ha => ⟨S1568, ha.agrees (by kernel_rfl), hst.keep [0, 1] rfl⟩)
                        · have ho1597 := ite_f ho1597 hc1604
                          refine OW.pure 2 [(140, .pointer (some ⟨b32, 0, none⟩)), (141, .int .i64 s1556)] (by kernel_rfl) ?_
                          obtain ⟨r1605, hr1606, ho1597⟩ := bind_some' ho1597
                          refine OW.fn rfl rfl rfl rfl (by kernel_rfl) (refs_Refs_Holders_ok _ (.pointer (some ⟨b32, 0, none⟩)) S1568 o1241.1 s1556 r1605 hr1606 (hst.part [0] rfl)) ?_
                          rintro e w1607 ⟨S1609, v1610, rfl, hst1608⟩
                          refine ⟨_, rfl, ?_⟩
                          have hst := hst.join (idx := [0]) (rest := [1]) rfl hst1608
                          obtain ⟨l1611, a1612, c1613, rfl⟩ := hst.len 1 rfl
                          refine OW.pure 4 [(146, .bool ((((r1605).length) : Int) != r1564.1))] (by kernel_rfl) ?_
                          refine OW.nil rfl ?_
                          obtain rfl := Option.some.inj ho1597
                          exact QW.meet (fun a ha => ⟨S1609, ha.agrees (by kernel_rfl), hst.keep [0, 2] rfl⟩)
                      · rintro a w1 ⟨S1595, ha, hst⟩
                        refine CW.go ?_ ha
                        rcases Bool.eq_false_or_eq_true (o1596) with hc1614 | hc1614
                        · have hl1555 := ite_t hl1555 hc1614
                          refine CW.cond_t rfl hc1614 ?_
                          refine CW.seq ?_
                          refine CW.region ?_
                          refine OW.pure 1 [(6, .bool false)] (by kernel_rfl) ?_
                          refine OW.nil rfl ?_
                          refine QW.next ?_
                          refine CW.ret ?_
                          refine QW.block_ret ?_
                          refine QW.then_ret ?_
                          refine QW.then_ret ?_
                          refine QW.block_ret ?_
                          refine QW.then_ret ?_
                          obtain rfl := Option.some.inj hl1555
                          obtain rfl := Option.some.inj hF
                          refine QW.ret1 rfl rfl ?_
                          exact ⟨rfl, hst.keep [] rfl⟩
                        · have hl1555 := ite_f hl1555 hc1614
                          refine CW.cond_f rfl hc1614 ?_
                          refine CW.skip ?_
                          refine QW.block_normal ?_
                          refine QW.next ?_
                          refine CW.region ?_
                          refine OW.pure 3 [(15, .int .i64 (w64 (s1556 + 1)))] (by kernel_rfl) ?_
                          refine OW.nil rfl ?_
                          exact QW.meet (fun a ha => ⟨n1554, Nat.lt_succ_self _, (w64 (s1556 + 1)), S1595, ha.agrees (by kernel_rfl), hst.keep [0, 1] rfl, hl1555⟩)
                  · have hl1555 := ite_f hl1555 hc1558
                    refine CW.cond_f rfl hc1558 ?_
                    refine CW.exit ?_
                    refine QW.then_exit ?_
                    refine QW.then_exit ?_
                    refine QW.block_here ?_
                    obtain rfl := Option.some.inj hl1555
                    exact QW.meet (fun a ha => ⟨(), S1557, rfl, ha.agrees (by kernel_rfl), hst.keep [0, 1] rfl⟩)
                · rintro a w1 ⟨t1436, S1433, rfl, ha, hst⟩
                  refine CW.go ?_ ha
                  refine CW.seq ?_
                  refine CW.seq ?_
                  obtain ⟨o1652, ho1653, hF⟩ := bind_some' hF
                  refine CW.cutK (fun a w1 => ∃ (S1651 : List Nat), Rep 189 [(0, .int .i64 p0), (7, .pointer (some ⟨b32, 0, none⟩)), (11, .slice a1222 (o1033.2).length c1223), (171, .bool o1652.2)] a ∧ St w (fp []) w1 [itI R_t24 [.pointer (some ⟨b32, 0, none⟩)] S1651 o1652.1, rowI (.slice a1222 (o1033.2).length c1223) 3 (encInt .i64) 1 o1033.2]) ?_ ?_
                  · refine CW.region ?_
                    refine OW.pure 2 [(147, .pointer (some ⟨b32, 0, none⟩)), (148, .int .i64 p2)] (by kernel_rfl) ?_
                    refine OW.row (α := Int) (e := 3) (enc := encInt .i64) (sz := 1) hst rfl rfl rfl [p2] rfl (fun _ => rfl) rfl rfl (fun _ => by kernel_rfl) ?_
                    intro g1654 w1655 hst
                    obtain ⟨r1656, hr1657, ho1653⟩ := bind_some' ho1653
                    refine OW.fn rfl rfl rfl rfl (by kernel_rfl) (refs_Refs_Drop_ok _ (.pointer (some ⟨b32, 0, none⟩)) S1433 o1241.1 (.slice (some ⟨g1654, 0, none⟩) 1 1) ([p2]) r1656 hr1657 (hst.part [0] rfl) (hst.rd 2 rfl (fun _ => rfl) [0] rfl (hst.len 2 rfl).1)) ?_
                    rintro e w1658 ⟨S1660, rfl, hst1659⟩
                    refine ⟨_, rfl, ?_⟩
                    have hst := hst.join (idx := [0]) (rest := [1, 2]) rfl hst1659
                    refine OW.pure 2 [(152, .bool (r1656.1 != 0))] (by kernel_rfl) ?_
                    refine OW.split 152 rfl (fun hc1661 => ?_) (fun hc1661 => ?_)
                    · have ho1653 := ite_t ho1653 hc1661
                      refine OW.pure 19 [(171, .bool true)] (by kernel_rfl) ?_
                      refine OW.nil rfl ?_
                      obtain rfl := Option.some.inj ho1653
                      exact QW.meet (fun a ha => ⟨S1660, ha.agrees (by kernel_rfl), hst.keep [0, 1] rfl⟩)
                    · have ho1653 := ite_f ho1653 hc1661
                      refine OW.pure 2 [(153, .pointer (some ⟨b32, 0, none⟩)), (154, .int .i64 p2)] (by kernel_rfl) ?_
                      refine OW.row (α := Int) (e := 3) (enc := encInt .i64) (sz := 1) hst rfl rfl rfl [p2] rfl (fun _ => rfl) rfl rfl (fun _ => by kernel_rfl) ?_
                      intro g1662 w1663 hst
                      obtain ⟨r1664, hr1665, ho1653⟩ := bind_some' ho1653
                      refine OW.fn rfl rfl rfl rfl (by kernel_rfl) (refs_Refs_Drop_ok _ (.pointer (some ⟨b32, 0, none⟩)) S1660 r1656.2 (.slice (some ⟨g1662, 0, none⟩) 1 1) ([p2]) r1664 hr1665 (hst.part [0] rfl) (hst.rd 3 rfl (fun _ => rfl) [0] rfl (hst.len 3 rfl).1)) ?_
                      rintro e w1666 ⟨S1668, rfl, hst1667⟩
                      refine ⟨_, rfl, ?_⟩
                      have hst := hst.join (idx := [0]) (rest := [1, 2, 3]) rfl hst1667
                      refine OW.pure 3 [(159, .bool (r1664.1 != 41))] (by kernel_rfl) ?_
                      refine OW.split 159 rfl (fun hc1669 => ?_) (fun hc1669 => ?_)
                      · have ho1653 := ite_t ho1653 hc1669
                        refine OW.pure 12 [(171, .bool true)] (by kernel_rfl) ?_
                        refine OW.nil rfl ?_
                        obtain rfl := Option.some.inj ho1653
                        exact QW.meet (fun a ha => ⟨S1668, ha.agrees (by kernel_rfl), hst.keep [0, 1] rfl⟩)
                      · have ho1653 := ite_f ho1653 hc1669
                        refine OW.pure 3 [(160, .pointer (some ⟨b32, 0, none⟩)), (161, .int .i64 p2), (162, .int .i64 p2)] (by kernel_rfl) ?_
                        refine OW.row (α := Int) (e := 3) (enc := encInt .i64) (sz := 1) hst rfl rfl rfl [p2, p2] rfl (fun _ => rfl) rfl rfl (fun _ => by kernel_rfl) ?_
                        intro g1670 w1671 hst
                        obtain ⟨r1672, hr1673, ho1653⟩ := bind_some' ho1653
                        refine OW.fn rfl rfl rfl rfl (by kernel_rfl) (refs_Refs_Drop_ok _ (.pointer (some ⟨b32, 0, none⟩)) S1668 r1664.2 (.slice (some ⟨g1670, 0, none⟩) 2 2) ([p2, p2]) r1672 hr1673 (hst.part [0] rfl) (hst.rd 4 rfl (fun _ => rfl) [0] rfl (hst.len 4 rfl).1)) ?_
                        rintro e w1674 ⟨S1676, rfl, hst1675⟩
                        refine ⟨_, rfl, ?_⟩
                        have hst := hst.join (idx := [0]) (rest := [1, 2, 3, 4]) rfl hst1675
                        refine OW.pure 3 [(167, .bool (r1672.1 != 2))] (by kernel_rfl) ?_
                        refine OW.split 167 rfl (fun hc1677 => ?_) (fun hc1677 => ?_)
                        · have ho1653 := ite_t ho1653 hc1677
                          refine OW.pure 4 [(171, .bool true)] (by kernel_rfl) ?_
                          refine OW.nil rfl ?_
                          obtain rfl := Option.some.inj ho1653
                          exact QW.meet (fun a ha => ⟨S1676, ha.agrees (by kernel_rfl), hst.keep [0, 1] rfl⟩)
                        · have ho1653 := ite_f ho1653 hc1677
                          refine OW.pure 1 [(168, .pointer (some ⟨b32, 0, none⟩))] (by kernel_rfl) ?_
                          obtain ⟨r1678, hr1679, ho1653⟩ := bind_some' ho1653
                          refine OW.fn rfl rfl rfl rfl (by kernel_rfl) (refs_Refs_Drop_ok _ (.pointer (some ⟨b32, 0, none⟩)) S1676 r1672.2 (.slice none 0 0) ([] : List Int) r1678 hr1679 (hst.part [0] rfl) (Rd.nil _ _ _ _ _)) ?_
                          rintro e w1680 ⟨S1682, rfl, hst1681⟩
                          refine ⟨_, rfl, ?_⟩
                          have hst := hst.join (idx := [0]) (rest := [1, 2, 3, 4]) rfl hst1681
                          refine OW.pure 2 [(171, .bool (r1678.1 != 0))] (by kernel_rfl) ?_
                          refine OW.nil rfl ?_
                          obtain rfl := Option.some.inj ho1653
                          exact QW.meet (fun a ha => ⟨S1682, ha.agrees (by kernel_rfl), hst.keep [0, 1] rfl⟩)
                  · rintro a w1 ⟨S1651, ha, hst⟩
                    refine CW.go ?_ ha
                    rcases Bool.eq_false_or_eq_true (o1652.2) with hc1683 | hc1683
                    · have hF := ite_t hF hc1683
                      refine CW.cond_t rfl hc1683 ?_
                      refine CW.seq ?_
                      refine CW.region ?_
                      refine OW.pure 1 [(6, .bool false)] (by kernel_rfl) ?_
                      refine OW.nil rfl ?_
                      refine QW.next ?_
                      refine CW.ret ?_
                      refine QW.then_ret ?_
                      obtain rfl := Option.some.inj hF
                      refine QW.ret1 rfl rfl ?_
                      exact ⟨rfl, hst.keep [] rfl⟩
                    · have hF := ite_f hF hc1683
                      refine CW.cond_f rfl hc1683 ?_
                      refine CW.skip ?_
                      refine QW.next ?_
                      refine CW.seq ?_
                      refine CW.seq ?_
                      refine CW.region ?_
                      refine OW.pure 1 [(19, .int .i64 0)] (by kernel_rfl) ?_
                      refine OW.nil rfl ?_
                      refine QW.next ?_
                      obtain ⟨o1763, ho1764, hF⟩ := bind_some' hF
                      refine CW.cutK (fun a w1 => ∃ (t1765 : Unit), o1763 = .inl t1765 ∧ Rep 189 [] a ∧ St w (fp []) w1 []) ?_ ?_
                      · refine CW.block ?_
                        refine CW.loop (fun n a w1 => ∃ (s1819 : Int) (S1820 : List Nat), Rep 189 [(0, .int .i64 p0), (7, .pointer (some ⟨b32, 0, none⟩)), (11, .slice a1222 (o1033.2).length c1223), (19, .int .i64 s1819)] a ∧ St w (fp []) w1 [itI R_t24 [.pointer (some ⟨b32, 0, none⟩)] S1820 o1652.1, rowI (.slice a1222 (o1033.2).length c1223) 3 (encInt .i64) 1 o1033.2] ∧ loop (tappetlaw18_RefsOnce_l4 p0 o1033 o1652) n s1819 = some o1763) fu (fun a ha => ⟨0, S1651, ha.agrees (by kernel_rfl), hst.keep [0, 1] rfl, ho1764⟩) ?_
                        rintro n1817 a w1 ⟨s1819, S1820, ha, hst, hl1818⟩
                        rcases n1817 with _ | n1817
                        · exact (loop_zero hl1818).elim
                        refine CW.go ?_ ha
                        refine CW.seq ?_
                        refine CW.seq ?_
                        refine CW.region ?_
                        refine OW.pure 3 [(174, .bool (decide (s1819 < p0)))] (by kernel_rfl) ?_
                        refine OW.nil rfl ?_
                        refine QW.next ?_
                        rcases Bool.eq_false_or_eq_true (decide (s1819 < p0)) with hc1821 | hc1821
                        · have hl1818 := ite_t hl1818 hc1821
                          refine CW.cond_t rfl hc1821 ?_
                          refine CW.skip ?_
                          refine QW.next ?_
                          refine CW.seq ?_
                          refine CW.block ?_
                          refine CW.seq ?_
                          refine CW.region ?_
                          refine OW.pure 2 [(178, .pointer (some ⟨b32, 0, none⟩)), (179, .int .i64 s1819)] (by kernel_rfl) ?_
                          obtain ⟨r1827, hr1828, hl1818⟩ := bind_some' hl1818
                          refine OW.fn rfl rfl rfl rfl (by kernel_rfl) (refs_Refs_Count_ok _ (.pointer (some ⟨b32, 0, none⟩)) S1820 o1652.1 s1819 r1827 hr1828 (hst.part [0] rfl)) ?_
                          rintro e w1829 ⟨S1831, rfl, hst1830⟩
                          refine ⟨_, rfl, ?_⟩
                          have hst := hst.join (idx := [0]) (rest := [1]) rfl hst1830
                          refine OW.pure 5 [(20, .int .i64 r1827.1)] (by kernel_rfl) ?_
                          refine OW.nil rfl ?_
                          refine QW.next ?_
                          refine CW.seq ?_
                          refine CW.region ?_
                          refine OW.pure 3 [(183, .int .i64 r1827.1), (184, .slice a1222 (o1033.2).length c1223), (185, .int .i64 s1819)] (by kernel_rfl) ?_
                          obtain ⟨x1838, hx1839, hl1818⟩ := bind_some' hl1818
                          obtain ⟨g1841, o1842, c1843, hv1840⟩ := hst.rowv 1 rfl hx1839
                          refine OW.idx 3 1 rfl rfl rfl rfl hv1840 rfl (idx_some hx1839).1 (idx_some hx1839).2.1 (by kernel_rfl) (by kernel_rfl) ?_
                          refine OW.ld rfl rfl rfl rfl (by kernel_rfl) (hst.rowc 1 rfl (fun _ => rfl) hx1839 hv1840 0 _ rfl) ?_
                          refine OW.pure 1 [(188, .bool (r1827.1 != x1838))] (by kernel_rfl) ?_
                          refine OW.nil rfl ?_
                          refine QW.next ?_
                          rcases Bool.eq_false_or_eq_true ((r1827.1 != x1838)) with hc1844 | hc1844
                          · have hl1818 := ite_t hl1818 hc1844
                            refine CW.cond_t rfl hc1844 ?_
                            refine CW.seq ?_
                            refine CW.region ?_
                            refine OW.pure 1 [(6, .bool false)] (by kernel_rfl) ?_
                            refine OW.nil rfl ?_
                            refine QW.next ?_
                            refine CW.ret ?_
                            refine QW.block_ret ?_
                            refine QW.then_ret ?_
                            refine QW.then_ret ?_
                            refine QW.block_ret ?_
                            refine QW.then_ret ?_
                            obtain rfl := Option.some.inj hl1818
                            obtain rfl := Option.some.inj hF
                            refine QW.ret1 rfl rfl ?_
                            exact ⟨rfl, hst.keep [] rfl⟩
                          · have hl1818 := ite_f hl1818 hc1844
                            refine CW.cond_f rfl hc1844 ?_
                            refine CW.skip ?_
                            refine QW.block_normal ?_
                            refine QW.next ?_
                            refine CW.region ?_
                            refine OW.pure 3 [(19, .int .i64 (w64 (s1819 + 1)))] (by kernel_rfl) ?_
                            refine OW.nil rfl ?_
                            exact QW.meet (fun a ha => ⟨n1817, Nat.lt_succ_self _, (w64 (s1819 + 1)), S1831, ha.agrees (by kernel_rfl), hst.keep [0, 1] rfl, hl1818⟩)
                        · have hl1818 := ite_f hl1818 hc1821
                          refine CW.cond_f rfl hc1821 ?_
                          refine CW.exit ?_
                          refine QW.then_exit ?_
                          refine QW.then_exit ?_
                          refine QW.block_here ?_
                          obtain rfl := Option.some.inj hl1818
                          exact QW.meet (fun a ha => ⟨(), rfl, ha.agrees (by kernel_rfl), hst.keep [] rfl⟩)
                      · rintro a w1 ⟨t1765, rfl, ha, hst⟩
                        refine CW.go ?_ ha
                        refine CW.seq ?_
                        refine CW.region ?_
                        refine OW.pure 1 [(6, .bool true)] (by kernel_rfl) ?_
                        refine OW.nil rfl ?_
                        refine QW.next ?_
                        refine CW.ret ?_
                        obtain rfl := Option.some.inj hF
                        refine QW.ret1 rfl rfl ?_
                        exact ⟨rfl, hst.keep [] rfl⟩
    · have hF := ocase_none hF he31
      refine ⟨_, rfl, ?_⟩
      have hst := hst.join (idx := []) (rest := []) rfl hst26
      refine OW.pure 5 [(7, .pointer none), (8, .int .i64 r23.2)] (by kernel_rfl) ?_
      refine OW.nil rfl ?_
      refine QW.next ?_
      refine CW.seq ?_
      refine CW.seq ?_
      refine CW.region ?_
      refine OW.pure 6 [(34, .bool true)] (by kernel_rfl) ?_
      refine OW.nil rfl ?_
      refine QW.next ?_
      refine CW.cond_t rfl rfl ?_
      refine CW.seq ?_
      refine CW.region ?_
      refine OW.pure 7 [(6, .bool (r23.2 == 2))] (by kernel_rfl) ?_
      refine OW.nil rfl ?_
      refine QW.next ?_
      refine CW.ret ?_
      refine QW.then_ret ?_
      obtain rfl := Option.some.inj hF
      refine QW.ret1 rfl rfl ?_
      exact ⟨rfl, hst.keep [] rfl⟩

set_option maxRecDepth 10000 in
theorem tappetlaw18_ints_ok (w : World) (v0 : Value) (p0 : List Int) (v1 : Value) (p1 : List Int) (r : Bool) (hF : tappetlaw18_ints p0 p1 = some r)
    (hst : St w (fp []) w []) (h0 : Rd w (fp []) v0 (encInt .i64) 1 p0) (h1 : Rd w (fp []) v1 (encInt .i64) 1 p1) :
    Calls Try.prog 12 [v0, v1].toArray w (fun e w' => e = .returned (.bool r) ∧ St w (fp []) w' []) := by
  refine CW.start (N := 26) Try.func12 rfl rfl rfl ?_
  obtain ⟨l1, a2, c3, rfl⟩ := h0.len
  obtain ⟨l4, a5, c6, rfl⟩ := h1.len
  refine CW.seq ?_
  refine CW.region ?_
  refine OW.pure 1 [] (by kernel_rfl) ?_
  refine OW.nil rfl ?_
  refine QW.next ?_
  refine CW.seq ?_
  refine CW.seq ?_
  refine CW.region ?_
  refine OW.pure 5 [(10, .bool ((((p0).length) : Int) != (((p1).length) : Int)))] (by kernel_rfl) ?_
  refine OW.nil rfl ?_
  refine QW.next ?_
  rcases Bool.eq_false_or_eq_true (((((p0).length) : Int) != (((p1).length) : Int))) with hc7 | hc7
  · have hF := ite_t hF hc7
    refine CW.cond_t rfl hc7 ?_
    refine CW.seq ?_
    refine CW.region ?_
    refine OW.pure 1 [(4, .bool false)] (by kernel_rfl) ?_
    refine OW.nil rfl ?_
    refine QW.next ?_
    refine CW.ret ?_
    refine QW.then_ret ?_
    obtain rfl := Option.some.inj hF
    refine QW.ret1 rfl rfl ?_
    exact ⟨rfl, hst.keep [] rfl⟩
  · have hF := ite_f hF hc7
    refine CW.cond_f rfl hc7 ?_
    refine CW.skip ?_
    refine QW.next ?_
    refine CW.seq ?_
    refine CW.seq ?_
    refine CW.region ?_
    refine OW.pure 1 [(5, .int .i64 0)] (by kernel_rfl) ?_
    refine OW.nil rfl ?_
    refine QW.next ?_
    obtain ⟨o104, ho105, hF⟩ := bind_some' hF
    refine CW.cutK (fun a w1 => ∃ (t106 : Unit), o104 = .inl t106 ∧ Rep 26 [] a ∧ St w (fp []) w1 []) ?_ ?_
    · refine CW.block ?_
      refine CW.loop (fun n a w1 => ∃ (i171 : Nat) (s170 : Unit), i171 + n = (p0).length ∧ Rep 26 [(0, .slice a2 (p0).length c3), (1, .slice a5 (p1).length c6), (5, .int .i64 (i171 : Int))] a ∧ St w (fp []) w1 [] ∧ forN (tappetlaw18_ints_l1 p0 p1) (fun (s170 : Unit) => (.inl ())) n i171 s170 = some o104) ((p0).length) (fun a ha => ⟨0, (), Nat.zero_add _, ha.agrees (by kernel_rfl), hst.keep [] rfl, ho105⟩) ?_
      rintro n168 a w1 ⟨i171, s170, hi172, ha, hst, hl169⟩
      refine CW.go ?_ ha
      refine CW.seq ?_
      refine CW.seq ?_
      refine CW.region ?_
      refine OW.pure 4 [(14, .bool (decide ((i171 : Int) < (((p0).length) : Int))))] (by kernel_rfl) ?_
      refine OW.nil rfl ?_
      refine QW.next ?_
      rcases Bool.eq_false_or_eq_true (decide ((i171 : Int) < (((p0).length) : Int))) with hc173 | hc173
      · rcases n168 with _ | n168
        · exact (cnt0 hi172 hc173).elim
        refine CW.cond_t rfl hc173 ?_
        refine CW.skip ?_
        refine QW.next ?_
        refine CW.seq ?_
        refine CW.block ?_
        refine CW.seq ?_
        refine CW.still (by kernel_rfl) (by kernel_rfl) ?_
        intro w188 hch189
        have hst := hst.same hch189
        refine OS.pure 2 [(17, .slice a2 (p0).length c3), (18, .int .i64 (i171 : Int))] rfl (by kernel_rfl) ?_
        obtain ⟨x190, hx191, hl169⟩ := bind_some' hl169
        obtain ⟨g193, o194, c195, hv192⟩ := h0.formv (fun _ => ⟨_, rfl⟩) hx191
        refine OS.idx 3 1 rfl rfl rfl rfl rfl hv192 rfl (idx_some hx191).1 (idx_some hx191).2.1 (by kernel_rfl) (by kernel_rfl) ?_
        refine OS.ld rfl rfl rfl rfl rfl (by kernel_rfl) (h0.cellv hst hx191 hv192 0 _ rfl) ?_
        refine OS.pure 2 [(21, .slice a5 (p1).length c6), (22, .int .i64 (i171 : Int))] rfl (by kernel_rfl) ?_
        obtain ⟨x196, hx197, hl169⟩ := bind_some' hl169
        obtain ⟨g199, o200, c201, hv198⟩ := h1.formv (fun _ => ⟨_, rfl⟩) hx197
        refine OS.idx 3 1 rfl rfl rfl rfl rfl hv198 rfl (idx_some hx197).1 (idx_some hx197).2.1 (by kernel_rfl) (by kernel_rfl) ?_
        refine OS.ld rfl rfl rfl rfl rfl (by kernel_rfl) (h1.cellv hst hx197 hv198 0 _ rfl) ?_
        refine OS.pure 1 [(25, .bool (x190 != x196))] rfl (by kernel_rfl) ?_
        refine OS.fin rfl ?_
        refine QW.next ?_
        rcases Bool.eq_false_or_eq_true ((x190 != x196)) with hc202 | hc202
        · have hl169 := ite_t hl169 hc202
          refine CW.cond_t rfl hc202 ?_
          refine CW.seq ?_
          refine CW.region ?_
          refine OW.pure 1 [(4, .bool false)] (by kernel_rfl) ?_
          refine OW.nil rfl ?_
          refine QW.next ?_
          refine CW.ret ?_
          refine QW.block_ret ?_
          refine QW.then_ret ?_
          refine QW.then_ret ?_
          refine QW.block_ret ?_
          refine QW.then_ret ?_
          obtain rfl := Option.some.inj hl169
          obtain rfl := Option.some.inj hF
          refine QW.ret1 rfl rfl ?_
          exact ⟨rfl, hst.keep [] rfl⟩
        · have hl169 := ite_f hl169 hc202
          refine CW.cond_f rfl hc202 ?_
          refine CW.skip ?_
          refine QW.block_normal ?_
          refine QW.next ?_
          refine CW.region ?_
          refine OW.pure 3 [(5, .int .i64 (w64 ((i171 : Int) + 1)))] (by kernel_rfl) ?_
          refine OW.nil rfl ?_
          refine QW.say 5 rfl (congrArg (Value.int .i64) (w64_cnt hc173 l1)) ?_
          exact QW.meet (fun a ha => ⟨n168, Nat.lt_succ_self _, i171 + 1, (), cnt_next hi172, ha.agrees (by kernel_rfl), hst.keep [] rfl, hl169⟩)
      · rcases n168 with _ | n168
        · refine CW.cond_f rfl hc173 ?_
          refine CW.exit ?_
          refine QW.then_exit ?_
          refine QW.then_exit ?_
          refine QW.block_here ?_
          obtain rfl := Option.some.inj hl169
          exact QW.meet (fun a ha => ⟨(), rfl, ha.agrees (by kernel_rfl), hst.keep [] rfl⟩)
        · exact (cnt1 hi172 hc173).elim
    · rintro a w1 ⟨t106, rfl, ha, hst⟩
      refine CW.go ?_ ha
      refine CW.seq ?_
      refine CW.region ?_
      refine OW.pure 1 [(4, .bool true)] (by kernel_rfl) ?_
      refine OW.nil rfl ?_
      refine QW.next ?_
      refine CW.ret ?_
      obtain rfl := Option.some.inj hF
      refine QW.ret1 rfl rfl ?_
      exact ⟨rfl, hst.keep [] rfl⟩

set_option maxRecDepth 10000 in
theorem tappetlaw18_RefsMany_ok (w : World) (fu : Nat) (v0 : Value) (p0 : List tappetlaw18_Op) (v1 : Value) (p1 : List Int) (r : Bool) (hF : tappetlaw18_RefsMany fu p0 p1 = some r)
    (hst : St w (fp []) w []) (h0 : RdN w (fp []) v0 R_t30.rd 3 p0) (h1 : Rd w (fp []) v1 (encInt .i64) 1 p1) :
    Calls Try.prog 4 [v0, v1].toArray w (fun e w' => e = .returned (.bool r) ∧ St w (fp []) w' []) := by
  refine CW.start (N := 217) Try.func4 rfl rfl rfl ?_
  obtain ⟨l1, a2, c3, rfl⟩ := h0.len
  obtain ⟨l4, a5, c6, rfl⟩ := h1.len
  refine CW.seq ?_
  refine CW.region ?_
  refine OW.pure 1 [] (by kernel_rfl) ?_
  refine OW.nil rfl ?_
  refine QW.next ?_
  refine CW.seq ?_
  refine CW.seq ?_
  refine CW.region ?_
  obtain ⟨r11, hr12, hF⟩ := bind_some' hF
  refine OW.fn rfl rfl rfl rfl (by kernel_rfl) (tappetlaw18_awake_ok _ r11 hr12 (hst.part [] rfl)) ?_
  rintro e w13 ⟨rfl, hst14⟩
  refine ⟨_, rfl, ?_⟩
  have hst := hst.join (idx := []) (rest := []) rfl hst14
  refine OW.pure 1 [(25, .bool (!r11))] (by kernel_rfl) ?_
  refine OW.nil rfl ?_
  refine QW.next ?_
  rcases Bool.eq_false_or_eq_true ((!r11)) with hc15 | hc15
  · have hF := ite_t hF hc15
    refine CW.cond_t rfl hc15 ?_
    refine CW.seq ?_
    refine CW.region ?_
    refine OW.pure 1 [(4, .bool false)] (by kernel_rfl) ?_
    refine OW.nil rfl ?_
    refine QW.next ?_
    refine CW.ret ?_
    refine QW.then_ret ?_
    obtain rfl := Option.some.inj hF
    refine QW.ret1 rfl rfl ?_
    exact ⟨rfl, hst.keep [] rfl⟩
  · have hF := ite_f hF hc15
    refine CW.cond_f rfl hc15 ?_
    refine CW.skip ?_
    refine QW.next ?_
    refine CW.seq ?_
    refine CW.region ?_
    obtain ⟨r26, hr27, hF⟩ := bind_some' hF
    refine OW.fn rfl rfl rfl rfl (by kernel_rfl) (refs_New_ok _ 4 r26 hr27 (hst.part [] rfl)) ?_
    rintro e w28 (⟨k30, v32, S33, he31, rfl, hst29⟩ | ⟨he34, rfl, hst29⟩)
    · have hF := ocase_some hF he31
      refine ⟨_, rfl, ?_⟩
      have hst := hst.join (idx := []) (rest := []) rfl hst29
      obtain ⟨b35, rfl⟩ := hst.fptr 0 rfl
      refine OW.pure 5 [(5, .pointer (some ⟨b35, 0, none⟩)), (6, .int .i64 r26.2)] (by kernel_rfl) ?_
      refine OW.nil rfl ?_
      refine QW.next ?_
      refine CW.seq ?_
      refine CW.region ?_
      obtain ⟨r46, hr47, hF⟩ := bind_some' hF
      refine OW.fn rfl rfl rfl rfl (by kernel_rfl) (refs_New_ok _ 4 r46 hr47 (hst.part [] rfl)) ?_
      rintro e w48 (⟨k50, v52, S53, he51, rfl, hst49⟩ | ⟨he54, rfl, hst49⟩)
      · have hF := ocase_some hF he51
        refine ⟨_, rfl, ?_⟩
        have hst := hst.join (idx := []) (rest := [0]) rfl hst49
        obtain ⟨b55, rfl⟩ := hst.fptr 0 rfl
        refine OW.pure 5 [(7, .pointer (some ⟨b55, 0, none⟩)), (8, .int .i64 r46.2)] (by kernel_rfl) ?_
        refine OW.nil rfl ?_
        refine QW.next ?_
        refine CW.seq ?_
        refine CW.seq ?_
        refine CW.cutK (fun a w1 => Rep 217 [(0, .slice a2 (p0).length c3), (1, .slice a5 (p1).length c6), (5, .pointer (some ⟨b35, 0, none⟩)), (7, .pointer (some ⟨b55, 0, none⟩)), (47, .bool ((r26.2 != 0) || (r46.2 != 0)))] a ∧ St w (fp []) w1 [itI R_t24 [.pointer (some ⟨b55, 0, none⟩)] S53 k50, itI R_t24 [.pointer (some ⟨b35, 0, none⟩)] S33 k30]) ?_ ?_
        · refine CW.region ?_
          refine OW.pure 11 [(44, .bool (r26.2 != 0))] (by kernel_rfl) ?_
          refine OW.split 44 rfl (fun hc56 => ?_) (fun hc56 => ?_)
          · refine OW.pure 3 [(47, .bool true)] (by kernel_rfl) ?_
            refine OW.nil rfl ?_
            refine QW.say 47 (v := .bool ((r26.2 != 0) || (r46.2 != 0))) rfl (by first | (rw [hc56]; done) | (rw [hc56]; rfl) | simp [hc56]) ?_
            exact QW.meet (fun a ha => ⟨ha.agrees (by kernel_rfl), hst.keep [0, 1] rfl⟩)
          · refine OW.pure 3 [(47, .bool (r46.2 != 0))] (by kernel_rfl) ?_
            refine OW.nil rfl ?_
            refine QW.say 47 (v := .bool ((r26.2 != 0) || (r46.2 != 0))) rfl (by first | (rw [hc56]; done) | (rw [hc56]; rfl) | simp [hc56]) ?_
            exact QW.meet (fun a ha => ⟨ha.agrees (by kernel_rfl), hst.keep [0, 1] rfl⟩)
        · rintro a w1 ⟨ha, hst⟩
          refine CW.go ?_ ha
          rcases Bool.eq_false_or_eq_true (((r26.2 != 0) || (r46.2 != 0))) with hc57 | hc57
          · have hF := ite_t hF hc57
            refine CW.cond_t rfl hc57 ?_
            refine CW.seq ?_
            refine CW.region ?_
            refine OW.pure 1 [(4, .bool false)] (by kernel_rfl) ?_
            refine OW.nil rfl ?_
            refine QW.next ?_
            refine CW.ret ?_
            refine QW.then_ret ?_
            obtain rfl := Option.some.inj hF
            refine QW.ret1 rfl rfl ?_
            exact ⟨rfl, hst.keep [] rfl⟩
          · have hF := ite_f hF hc57
            refine CW.cond_f rfl hc57 ?_
            refine CW.skip ?_
            refine QW.next ?_
            refine CW.seq ?_
            refine CW.seq ?_
            refine CW.region ?_
            refine OW.pure 1 [(9, .int .i64 0)] (by kernel_rfl) ?_
            refine OW.nil rfl ?_
            refine QW.next ?_
            obtain ⟨o451, ho452, hF⟩ := bind_some' hF
            refine CW.cutK (fun a w1 => ∃ (t453 : refs_Refs × refs_Refs) (S449 : List Nat) (S450 : List Nat), o451 = .inl t453 ∧ Rep 217 [(1, .slice a5 (p1).length c6), (5, .pointer (some ⟨b35, 0, none⟩)), (7, .pointer (some ⟨b55, 0, none⟩))] a ∧ St w (fp []) w1 [itI R_t24 [.pointer (some ⟨b35, 0, none⟩)] S449 t453.1, itI R_t24 [.pointer (some ⟨b55, 0, none⟩)] S450 t453.2]) ?_ ?_
            · refine CW.block ?_
              refine CW.loop (fun n a w1 => ∃ (s715 : refs_Refs × refs_Refs × Int) (S716 : List Nat) (S717 : List Nat), Rep 217 [(0, .slice a2 (p0).length c3), (1, .slice a5 (p1).length c6), (5, .pointer (some ⟨b35, 0, none⟩)), (7, .pointer (some ⟨b55, 0, none⟩)), (9, .int .i64 s715.2.2)] a ∧ St w (fp []) w1 [itI R_t24 [.pointer (some ⟨b35, 0, none⟩)] S716 s715.1, itI R_t24 [.pointer (some ⟨b55, 0, none⟩)] S717 s715.2.1] ∧ loop (tappetlaw18_RefsMany_l1 p0) n s715 = some o451) fu (fun a ha => ⟨(k30, k50, 0), S33, S53, ha.agrees (by kernel_rfl), hst.keep [1, 0] rfl, ho452⟩) ?_
              rintro n713 a w1 ⟨s715, S716, S717, ha, hst, hl714⟩
              rcases n713 with _ | n713
              · exact (loop_zero hl714).elim
              refine CW.go ?_ ha
              refine CW.seq ?_
              refine CW.seq ?_
              refine CW.cutK (fun a w1 => Rep 217 [(0, .slice a2 (p0).length c3), (1, .slice a5 (p1).length c6), (5, .pointer (some ⟨b35, 0, none⟩)), (7, .pointer (some ⟨b55, 0, none⟩)), (9, .int .i64 s715.2.2), (55, .bool (decide (s715.2.2 < (((p0).length) : Int)) && decide (s715.2.2 < 300)))] a ∧ St w (fp []) w1 [itI R_t24 [.pointer (some ⟨b35, 0, none⟩)] S716 s715.1, itI R_t24 [.pointer (some ⟨b55, 0, none⟩)] S717 s715.2.1]) ?_ ?_
              · refine CW.region ?_
                refine OW.pure 5 [(52, .bool (decide (s715.2.2 < (((p0).length) : Int))))] (by kernel_rfl) ?_
                refine OW.split 52 rfl (fun hc718 => ?_) (fun hc718 => ?_)
                · refine OW.pure 3 [(55, .bool (decide (s715.2.2 < 300)))] (by kernel_rfl) ?_
                  refine OW.nil rfl ?_
                  refine QW.say 55 (v := .bool (decide (s715.2.2 < (((p0).length) : Int)) && decide (s715.2.2 < 300))) rfl (by first | (rw [hc718]; done) | (rw [hc718]; rfl) | simp [hc718]) ?_
                  exact QW.meet (fun a ha => ⟨ha.agrees (by kernel_rfl), hst.keep [0, 1] rfl⟩)
                · refine OW.pure 3 [(55, .bool false)] (by kernel_rfl) ?_
                  refine OW.nil rfl ?_
                  refine QW.say 55 (v := .bool (decide (s715.2.2 < (((p0).length) : Int)) && decide (s715.2.2 < 300))) rfl (by first | (rw [hc718]; done) | (rw [hc718]; rfl) | simp [hc718]) ?_
                  exact QW.meet (fun a ha => ⟨ha.agrees (by kernel_rfl), hst.keep [0, 1] rfl⟩)
              · rintro a w1 ⟨ha, hst⟩
                refine CW.go ?_ ha
                rcases Bool.eq_false_or_eq_true ((decide (s715.2.2 < (((p0).length) : Int)) && decide (s715.2.2 < 300))) with hc719 | hc719
                · have hl714 := ite_t hl714 hc719
                  refine CW.cond_t rfl hc719 ?_
                  refine CW.skip ?_
                  refine QW.next ?_
                  refine CW.seq ?_
                  refine CW.block ?_
                  refine CW.seq ?_
                  refine CW.plan (by kernel_rfl) ?_
                  intro w782 hch783
                  have hst := hst.same hch783
                  refine OA.pure [0, 1, 2] [(58, .pointer (some ⟨b35, 0, none⟩)), (59, .slice a2 (p0).length c3), (60, .int .i64 s715.2.2)] (by kernel_rfl) ?_
                  obtain ⟨x784, hx785, hl714⟩ := bind_some' hl714
                  obtain ⟨g787, o788, c789, cs790, hv786, hd791, hl792⟩ := h0.formv hx785
                  obtain ⟨_, rfl, ⟨v793, rfl, h794⟩⟩ := hd791
                  have h794 : Rd _ _ _ _ _ x784.Maps := h794
                  obtain ⟨l795, a796, c797, rfl⟩ := h794.len
                  refine OA.idx (i := 3) 30 3 rfl (by kernel_rfl) rfl rfl rfl hv786 rfl (idx_some hx785).1 (idx_some hx785).2.1 (by kernel_rfl) (by kernel_rfl) ?_
                  refine OA.pure [4] [(62, .pointer (some ⟨g787, o788 + Int.toNat s715.2.2 * 3 + 1, none⟩))] (by kernel_rfl) ?_
                  refine OA.ld (i := 5) rfl (by kernel_rfl) rfl rfl rfl (by kernel_rfl) (hl792 1 _ rfl _ _ hst) ?_
                  refine OA.pure [6, 7] [(64, .slice a2 (p0).length c3), (65, .int .i64 s715.2.2)] (by kernel_rfl) ?_
                  obtain ⟨g799, o800, c801, cs802, hv798, hd803, hl804⟩ := h0.formv hx785
                  obtain ⟨_, rfl, ⟨v805, rfl, h806⟩⟩ := hd803
                  have h806 : Rd _ _ _ _ _ x784.Maps := h806
                  obtain ⟨l807, a808, c809, rfl⟩ := h806.len
                  refine OA.idx (i := 8) 30 3 rfl (by kernel_rfl) rfl rfl rfl hv798 rfl (idx_some hx785).1 (idx_some hx785).2.1 (by kernel_rfl) (by kernel_rfl) ?_
                  refine OA.pure [9] [(67, .pointer (some ⟨g799, o800 + Int.toNat s715.2.2 * 3 + 2, none⟩))] (by kernel_rfl) ?_
                  refine OA.ld (i := 10) rfl (by kernel_rfl) rfl rfl rfl (by kernel_rfl) (hl804 2 _ rfl _ _ hst) ?_
                  refine OA.pure [12, 13, 14] [(70, .pointer (some ⟨b55, 0, none⟩)), (71, .slice a2 (p0).length c3), (72, .int .i64 s715.2.2)] (by kernel_rfl) ?_
                  obtain ⟨g811, o812, c813, cs814, hv810, hd815, hl816⟩ := h0.formv hx785
                  obtain ⟨_, rfl, ⟨v817, rfl, h818⟩⟩ := hd815
                  have h818 : Rd _ _ _ _ _ x784.Maps := h818
                  obtain ⟨l819, a820, c821, rfl⟩ := h818.len
                  refine OA.idx (i := 15) 30 3 rfl (by kernel_rfl) rfl rfl rfl hv810 rfl (idx_some hx785).1 (idx_some hx785).2.1 (by kernel_rfl) (by kernel_rfl) ?_
                  refine OA.pure [16] [(74, .pointer (some ⟨g811, o812 + Int.toNat s715.2.2 * 3 + 1, none⟩))] (by kernel_rfl) ?_
                  refine OA.ld (i := 17) rfl (by kernel_rfl) rfl rfl rfl (by kernel_rfl) (hl816 1 _ rfl _ _ hst) ?_
                  refine OA.pure [18, 19] [(76, .slice a2 (p0).length c3), (77, .int .i64 s715.2.2)] (by kernel_rfl) ?_
                  obtain ⟨g823, o824, c825, cs826, hv822, hd827, hl828⟩ := h0.formv hx785
                  obtain ⟨_, rfl, ⟨v829, rfl, h830⟩⟩ := hd827
                  have h830 : Rd _ _ _ _ _ x784.Maps := h830
                  obtain ⟨l831, a832, c833, rfl⟩ := h830.len
                  refine OA.idx (i := 20) 30 3 rfl (by kernel_rfl) rfl rfl rfl hv822 rfl (idx_some hx785).1 (idx_some hx785).2.1 (by kernel_rfl) (by kernel_rfl) ?_
                  refine OA.pure [21] [(79, .pointer (some ⟨g823, o824 + Int.toNat s715.2.2 * 3 + 2, none⟩))] (by kernel_rfl) ?_
                  refine OA.ld (i := 22) rfl (by kernel_rfl) rfl rfl rfl (by kernel_rfl) (hl828 2 _ rfl _ _ hst) ?_
                  refine OA.act (i := 11) [22, 17] (by kernel_rfl) rfl rfl (by kernel_rfl) (by kernel_rfl) ?_
                  obtain ⟨r834, hr835, hl714⟩ := bind_some' hl714
                  refine OW.fn rfl rfl rfl rfl (by kernel_rfl) (refs_Refs_Hold_ok _ (.pointer (some ⟨b35, 0, none⟩)) S716 s715.1 x784.Prog (.slice a808 (x784.Maps).length c809) x784.Maps r834 hr835 (hst.part [0] rfl) (h806.give hst [0])) ?_
                  rintro e w836 ⟨S838, rfl, hst837⟩
                  refine ⟨_, rfl, ?_⟩
                  have hst := hst.join (idx := [0]) (rest := [1]) rfl hst837
                  refine OA.next ⟨(hl828 2 _ rfl _ _ hst), (hl816 1 _ rfl _ _ hst), trivial⟩ ?_
                  refine OA.act (i := 23) [] (by kernel_rfl) rfl rfl (by kernel_rfl) (by kernel_rfl) ?_
                  obtain ⟨r839, hr840, hl714⟩ := bind_some' hl714
                  refine OW.fn rfl rfl rfl rfl (by kernel_rfl) (refs_Refs_Hold_ok _ (.pointer (some ⟨b55, 0, none⟩)) S717 s715.2.1 x784.Prog (.slice a832 (x784.Maps).length c833) x784.Maps r839 hr840 (hst.part [1] rfl) (h830.give hst [1])) ?_
                  rintro e w841 ⟨S843, rfl, hst842⟩
                  refine ⟨_, rfl, ?_⟩
                  have hst := hst.join (idx := [1]) (rest := [0]) rfl hst842
                  refine OA.next trivial ?_
                  refine OA.pure [24] [(82, .bool (r834.1 != r839.1))] (by kernel_rfl) ?_
                  refine OA.fin (by kernel_rfl) (by kernel_rfl) ?_
                  refine QW.next ?_
                  rcases Bool.eq_false_or_eq_true ((r834.1 != r839.1)) with hc844 | hc844
                  · have hl714 := ite_t hl714 hc844
                    refine CW.cond_t rfl hc844 ?_
                    refine CW.seq ?_
                    refine CW.region ?_
                    refine OW.pure 1 [(4, .bool false)] (by kernel_rfl) ?_
                    refine OW.nil rfl ?_
                    refine QW.next ?_
                    refine CW.ret ?_
                    refine QW.block_ret ?_
                    refine QW.then_ret ?_
                    refine QW.then_ret ?_
                    refine QW.block_ret ?_
                    refine QW.then_ret ?_
                    obtain rfl := Option.some.inj hl714
                    obtain rfl := Option.some.inj hF
                    refine QW.ret1 rfl rfl ?_
                    exact ⟨rfl, hst.keep [] rfl⟩
                  · have hl714 := ite_f hl714 hc844
                    refine CW.cond_f rfl hc844 ?_
                    refine CW.skip ?_
                    refine QW.block_normal ?_
                    refine QW.next ?_
                    refine CW.region ?_
                    refine OW.pure 3 [(9, .int .i64 (w64 (s715.2.2 + 1)))] (by kernel_rfl) ?_
                    refine OW.nil rfl ?_
                    exact QW.meet (fun a ha => ⟨n713, Nat.lt_succ_self _, (r834.2, r839.2, w64 (s715.2.2 + 1)), S838, S843, ha.agrees (by kernel_rfl), hst.keep [1, 0] rfl, hl714⟩)
                · have hl714 := ite_f hl714 hc719
                  refine CW.cond_f rfl hc719 ?_
                  refine CW.exit ?_
                  refine QW.then_exit ?_
                  refine QW.then_exit ?_
                  refine QW.block_here ?_
                  obtain rfl := Option.some.inj hl714
                  exact QW.meet (fun a ha => ⟨(s715.1, s715.2.1), S716, S717, rfl, ha.agrees (by kernel_rfl), hst.keep [0, 1] rfl⟩)
            · rintro a w1 ⟨t453, S449, S450, rfl, ha, hst⟩
              refine CW.go ?_ ha
              refine CW.seq ?_
              refine CW.region ?_
              refine OW.pure 1 [(10, .bool true)] (by kernel_rfl) ?_
              refine OW.nil rfl ?_
              refine QW.next ?_
              refine CW.seq ?_
              refine CW.seq ?_
              refine CW.region ?_
              refine OW.pure 1 [(11, .int .i64 0)] (by kernel_rfl) ?_
              refine OW.nil rfl ?_
              refine QW.next ?_
              obtain ⟨o1197, ho1198, hF⟩ := bind_some' hF
              refine CW.cutK (fun a w1 => ∃ (S1196 : List Nat), Rep 217 [(1, .slice a5 (p1).length c6), (5, .pointer (some ⟨b35, 0, none⟩)), (7, .pointer (some ⟨b55, 0, none⟩)), (10, .bool o1197)] a ∧ St w (fp []) w1 [itI R_t24 [.pointer (some ⟨b35, 0, none⟩)] S1196 t453.1, itI R_t24 [.pointer (some ⟨b55, 0, none⟩)] S450 t453.2]) ?_ ?_
              · refine CW.block ?_
                refine CW.loop (fun n a w1 => ∃ (s1397 : Bool × Int) (S1398 : List Nat), Rep 217 [(1, .slice a5 (p1).length c6), (5, .pointer (some ⟨b35, 0, none⟩)), (7, .pointer (some ⟨b55, 0, none⟩)), (10, .bool s1397.1), (11, .int .i64 s1397.2)] a ∧ St w (fp []) w1 [itI R_t24 [.pointer (some ⟨b35, 0, none⟩)] S1398 t453.1, itI R_t24 [.pointer (some ⟨b55, 0, none⟩)] S450 t453.2] ∧ loop (tappetlaw18_RefsMany_l2 fu p1 t453) n s1397 = some o1197) fu (fun a ha => ⟨(true, 0), S449, ha.agrees (by kernel_rfl), hst.keep [0, 1] rfl, ho1198⟩) ?_
                rintro n1395 a w1 ⟨s1397, S1398, ha, hst, hl1396⟩
                rcases n1395 with _ | n1395
                · exact (loop_zero hl1396).elim
                refine CW.go ?_ ha
                refine CW.seq ?_
                refine CW.seq ?_
                refine CW.cutK (fun a w1 => Rep 217 [(1, .slice a5 (p1).length c6), (5, .pointer (some ⟨b35, 0, none⟩)), (7, .pointer (some ⟨b55, 0, none⟩)), (10, .bool s1397.1), (11, .int .i64 s1397.2), (90, .bool (decide (s1397.2 < (((p1).length) : Int)) && decide (s1397.2 < 100)))] a ∧ St w (fp []) w1 [itI R_t24 [.pointer (some ⟨b35, 0, none⟩)] S1398 t453.1, itI R_t24 [.pointer (some ⟨b55, 0, none⟩)] S450 t453.2]) ?_ ?_
                · refine CW.region ?_
                  refine OW.pure 5 [(87, .bool (decide (s1397.2 < (((p1).length) : Int))))] (by kernel_rfl) ?_
                  refine OW.split 87 rfl (fun hc1399 => ?_) (fun hc1399 => ?_)
                  · refine OW.pure 3 [(90, .bool (decide (s1397.2 < 100)))] (by kernel_rfl) ?_
                    refine OW.nil rfl ?_
                    refine QW.say 90 (v := .bool (decide (s1397.2 < (((p1).length) : Int)) && decide (s1397.2 < 100))) rfl (by first | (rw [hc1399]; done) | (rw [hc1399]; rfl) | simp [hc1399]) ?_
                    exact QW.meet (fun a ha => ⟨ha.agrees (by kernel_rfl), hst.keep [0, 1] rfl⟩)
                  · refine OW.pure 3 [(90, .bool false)] (by kernel_rfl) ?_
                    refine OW.nil rfl ?_
                    refine QW.say 90 (v := .bool (decide (s1397.2 < (((p1).length) : Int)) && decide (s1397.2 < 100))) rfl (by first | (rw [hc1399]; done) | (rw [hc1399]; rfl) | simp [hc1399]) ?_
                    exact QW.meet (fun a ha => ⟨ha.agrees (by kernel_rfl), hst.keep [0, 1] rfl⟩)
                · rintro a w1 ⟨ha, hst⟩
                  refine CW.go ?_ ha
                  rcases Bool.eq_false_or_eq_true ((decide (s1397.2 < (((p1).length) : Int)) && decide (s1397.2 < 100))) with hc1400 | hc1400
                  · have hl1396 := ite_t hl1396 hc1400
                    refine CW.cond_t rfl hc1400 ?_
                    refine CW.skip ?_
                    refine QW.next ?_
                    refine CW.seq ?_
                    refine CW.block ?_
                    refine CW.seq ?_
                    refine CW.region ?_
                    refine OW.pure 3 [(94, .pointer (some ⟨b35, 0, none⟩)), (95, .slice a5 (p1).length c6), (96, .int .i64 s1397.2)] (by kernel_rfl) ?_
                    obtain ⟨x1416, hx1417, hl1396⟩ := bind_some' hl1396
                    obtain ⟨g1419, o1420, c1421, hv1418⟩ := h1.formv (fun _ => ⟨_, rfl⟩) hx1417
                    refine OW.idx 3 1 rfl rfl rfl rfl hv1418 rfl (idx_some hx1417).1 (idx_some hx1417).2.1 (by kernel_rfl) (by kernel_rfl) ?_
                    refine OW.ld rfl rfl rfl rfl (by kernel_rfl) (h1.cellv hst hx1417 hv1418 0 _ rfl) ?_
                    obtain ⟨r1422, hr1423, hl1396⟩ := bind_some' hl1396
                    refine OW.fn rfl rfl rfl rfl (by kernel_rfl) (refs_Refs_Held_ok _ (.pointer (some ⟨b35, 0, none⟩)) S1398 t453.1 x1416 r1422 hr1423 (hst.part [0] rfl)) ?_
                    rintro e w1424 ⟨S1426, v1427, rfl, hst1425⟩
                    refine ⟨_, rfl, ?_⟩
                    have hst := hst.join (idx := [0]) (rest := [1]) rfl hst1425
                    obtain ⟨l1428, a1429, c1430, rfl⟩ := hst.len 1 rfl
                    refine OW.pure 5 [(13, .bool r1422.2)] (by kernel_rfl) ?_
                    refine OW.nil rfl ?_
                    refine QW.next ?_
                    refine CW.seq ?_
                    refine CW.cutK (fun a w1 => Rep 217 [(1, .slice a5 (p1).length c6), (5, .pointer (some ⟨b35, 0, none⟩)), (7, .pointer (some ⟨b55, 0, none⟩)), (10, .bool (s1397.1 && r1422.2)), (11, .int .i64 s1397.2)] a ∧ St w (fp []) w1 [itI R_t24 [.pointer (some ⟨b35, 0, none⟩)] S1426 t453.1, itI R_t24 [.pointer (some ⟨b55, 0, none⟩)] S450 t453.2]) ?_ ?_
                    · refine CW.region ?_
                      refine OW.pure 2 [(103, .bool s1397.1)] (by kernel_rfl) ?_
                      refine OW.split 103 rfl (fun hc1431 => ?_) (fun hc1431 => ?_)
                      · refine OW.pure 3 [(10, .bool r1422.2)] (by kernel_rfl) ?_
                        refine OW.nil rfl ?_
                        refine QW.say 10 (v := .bool (s1397.1 && r1422.2)) rfl (by first | (rw [hc1431]; done) | (rw [hc1431]; rfl) | simp [hc1431]) ?_
                        exact QW.meet (fun a ha => ⟨ha.agrees (by kernel_rfl), hst.keep [0, 2] rfl⟩)
                      · refine OW.pure 3 [(10, .bool false)] (by kernel_rfl) ?_
                        refine OW.nil rfl ?_
                        refine QW.say 10 (v := .bool (s1397.1 && r1422.2)) rfl (by first | (rw [hc1431]; done) | (rw [hc1431]; rfl) | simp [hc1431]) ?_
                        exact QW.meet (fun a ha => ⟨ha.agrees (by kernel_rfl), hst.keep [0, 2] rfl⟩)
                    · rintro a w1 ⟨ha, hst⟩
                      refine CW.go ?_ ha
                      refine CW.seq ?_
                      refine CW.region ?_
                      refine OW.pure 1 [(14, .int .i64 0)] (by kernel_rfl) ?_
                      refine OW.nil rfl ?_
                      refine QW.next ?_
                      obtain ⟨o1490, ho1491, hl1396⟩ := bind_some' hl1396
                      refine CW.cutQ (fun a w1 => Rep 217 [(1, .slice a5 (p1).length c6), (5, .pointer (some ⟨b35, 0, none⟩)), (7, .pointer (some ⟨b55, 0, none⟩)), (10, .bool o1490), (11, .int .i64 s1397.2)] a ∧ St w (fp []) w1 [itI R_t24 [.pointer (some ⟨b35, 0, none⟩)] S1426 t453.1, itI R_t24 [.pointer (some ⟨b55, 0, none⟩)] S450 t453.2]) ?_ ?_
                      · refine CW.block ?_
                        refine CW.loop (fun n a w1 => ∃ (s1531 : Bool × Int), Rep 217 [(1, .slice a5 (p1).length c6), (5, .pointer (some ⟨b35, 0, none⟩)), (7, .pointer (some ⟨b55, 0, none⟩)), (10, .bool s1531.1), (11, .int .i64 s1397.2), (14, .int .i64 s1531.2)] a ∧ St w (fp []) w1 [itI R_t24 [.pointer (some ⟨b35, 0, none⟩)] S1426 t453.1, itI R_t24 [.pointer (some ⟨b55, 0, none⟩)] S450 t453.2] ∧ loop (tappetlaw18_RefsMany_l3 p1 s1397) n s1531 = some o1490) fu (fun a ha => ⟨((s1397.1 && r1422.2), 0), ha.agrees (by kernel_rfl), hst.keep [0, 1] rfl, ho1491⟩) ?_
                        rintro n1529 a w1 ⟨s1531, ha, hst, hl1530⟩
                        rcases n1529 with _ | n1529
                        · exact (loop_zero hl1530).elim
                        refine CW.go ?_ ha
                        refine CW.seq ?_
                        refine CW.seq ?_
                        refine CW.region ?_
                        refine OW.pure 3 [(108, .bool (decide (s1531.2 < s1397.2)))] (by kernel_rfl) ?_
                        refine OW.nil rfl ?_
                        refine QW.next ?_
                        rcases Bool.eq_false_or_eq_true (decide (s1531.2 < s1397.2)) with hc1532 | hc1532
                        · have hl1530 := ite_t hl1530 hc1532
                          refine CW.cond_t rfl hc1532 ?_
                          refine CW.skip ?_
                          refine QW.next ?_
                          refine CW.seq ?_
                          refine CW.block ?_
                          refine CW.still (by kernel_rfl) (by kernel_rfl) ?_
                          intro w1535 hch1536
                          have hst := hst.same hch1536
                          refine OS.pure 2 [(112, .bool s1531.1)] rfl (by kernel_rfl) ?_
                          refine OS.split 112 rfl (fun hc1537 => ?_) (fun hc1537 => ?_)
                          · have hl1530 := ite_t hl1530 hc1537
                            refine OS.pure 2 [(113, .slice a5 (p1).length c6), (114, .int .i64 s1531.2)] rfl (by kernel_rfl) ?_
                            obtain ⟨x1538, hx1539, hl1530⟩ := bind_some' hl1530
                            obtain ⟨g1541, o1542, c1543, hv1540⟩ := h1.formv (fun _ => ⟨_, rfl⟩) hx1539
                            refine OS.idx 3 1 rfl rfl rfl rfl rfl hv1540 rfl (idx_some hx1539).1 (idx_some hx1539).2.1 (by kernel_rfl) (by kernel_rfl) ?_
                            refine OS.ld rfl rfl rfl rfl rfl (by kernel_rfl) (h1.cellv hst hx1539 hv1540 0 _ rfl) ?_
                            refine OS.pure 2 [(117, .slice a5 (p1).length c6), (118, .int .i64 s1397.2)] rfl (by kernel_rfl) ?_
                            obtain ⟨x1544, hx1545, hl1530⟩ := bind_some' hl1530
                            obtain ⟨g1547, o1548, c1549, hv1546⟩ := h1.formv (fun _ => ⟨_, rfl⟩) hx1545
                            refine OS.idx 3 1 rfl rfl rfl rfl rfl hv1546 rfl (idx_some hx1545).1 (idx_some hx1545).2.1 (by kernel_rfl) (by kernel_rfl) ?_
                            refine OS.ld rfl rfl rfl rfl rfl (by kernel_rfl) (h1.cellv hst hx1545 hv1546 0 _ rfl) ?_
                            refine OS.pure 3 [(10, .bool (x1538 != x1544))] rfl (by kernel_rfl) ?_
                            refine OS.fin rfl ?_
                            refine QW.block_normal ?_
                            refine QW.next ?_
                            refine CW.region ?_
                            refine OW.pure 3 [(14, .int .i64 (w64 (s1531.2 + 1)))] (by kernel_rfl) ?_
                            refine OW.nil rfl ?_
                            exact QW.meet (fun a ha => ⟨n1529, Nat.lt_succ_self _, ((x1538 != x1544), w64 (s1531.2 + 1)), ha.agrees (by kernel_rfl), hst.keep [0, 1] rfl, hl1530⟩)
                          · have hl1530 := ite_f hl1530 hc1537
                            refine OS.pure 11 [(10, .bool false)] rfl (by kernel_rfl) ?_
                            refine OS.fin rfl ?_
                            refine QW.block_normal ?_
                            refine QW.next ?_
                            refine CW.region ?_
                            refine OW.pure 3 [(14, .int .i64 (w64 (s1531.2 + 1)))] (by kernel_rfl) ?_
                            refine OW.nil rfl ?_
                            exact QW.meet (fun a ha => ⟨n1529, Nat.lt_succ_self _, (false, w64 (s1531.2 + 1)), ha.agrees (by kernel_rfl), hst.keep [0, 1] rfl, hl1530⟩)
                        · have hl1530 := ite_f hl1530 hc1532
                          refine CW.cond_f rfl hc1532 ?_
                          refine CW.exit ?_
                          refine QW.then_exit ?_
                          refine QW.then_exit ?_
                          refine QW.block_here ?_
                          obtain rfl := Option.some.inj hl1530
                          exact QW.meet (fun a ha => ⟨ha.agrees (by kernel_rfl), hst.keep [0, 1] rfl⟩)
                      · rintro a w1 ⟨ha, hst⟩
                        refine QW.go ?_ ha
                        refine QW.block_normal ?_
                        refine QW.next ?_
                        refine CW.region ?_
                        refine OW.pure 3 [(11, .int .i64 (w64 (s1397.2 + 1)))] (by kernel_rfl) ?_
                        refine OW.nil rfl ?_
                        exact QW.meet (fun a ha => ⟨n1395, Nat.lt_succ_self _, (o1490, w64 (s1397.2 + 1)), S1426, ha.agrees (by kernel_rfl), hst.keep [0, 1] rfl, hl1396⟩)
                  · have hl1396 := ite_f hl1396 hc1400
                    refine CW.cond_f rfl hc1400 ?_
                    refine CW.exit ?_
                    refine QW.then_exit ?_
                    refine QW.then_exit ?_
                    refine QW.block_here ?_
                    obtain rfl := Option.some.inj hl1396
                    exact QW.meet (fun a ha => ⟨S1398, ha.agrees (by kernel_rfl), hst.keep [0, 1] rfl⟩)
              · rintro a w1 ⟨S1196, ha, hst⟩
                refine CW.go ?_ ha
                refine CW.seq ?_
                refine CW.seq ?_
                refine CW.region ?_
                refine OW.pure 3 [(125, .bool (decide ((((p1).length) : Int) > 100)))] (by kernel_rfl) ?_
                refine OW.nil rfl ?_
                refine QW.next ?_
                rcases Bool.eq_false_or_eq_true (decide ((((p1).length) : Int) > 100)) with hc1550 | hc1550
                · have hF := ite_t hF hc1550
                  refine CW.cond_t rfl hc1550 ?_
                  refine CW.seq ?_
                  refine CW.region ?_
                  refine OW.pure 1 [(4, .bool true)] (by kernel_rfl) ?_
                  refine OW.nil rfl ?_
                  refine QW.next ?_
                  refine CW.ret ?_
                  refine QW.then_ret ?_
                  obtain rfl := Option.some.inj hF
                  refine QW.ret1 rfl rfl ?_
                  exact ⟨rfl, hst.keep [] rfl⟩
                · have hF := ite_f hF hc1550
                  refine CW.cond_f rfl hc1550 ?_
                  refine CW.skip ?_
                  refine QW.next ?_
                  refine CW.seq ?_
                  refine CW.seq ?_
                  refine CW.region ?_
                  refine OW.pure 1 [(126, .pointer (some ⟨b35, 0, none⟩))] (by kernel_rfl) ?_
                  refine OW.row (α := Int) (e := 3) (enc := encInt .i64) (sz := 1) hst rfl rfl rfl [] rfl (fun _ => rfl) rfl rfl (fun _ => by kernel_rfl) ?_
                  intro g1565 w1566 hst
                  refine OW.pure 1 [(128, .slice a5 (p1).length c6)] (by kernel_rfl) ?_
                  obtain ⟨u1567, hr1568, hF⟩ := bind_some' hF
                  refine OW.app hst 2 rfl (fun _ => rfl) (fun _ => rfl) rfl rfl rfl rfl rfl rfl (by kernel_rfl) el3 (h1.on hst) (room_le hr1568) ?_
                  intro v1569 w1570 hst
                  obtain ⟨l1571, a1572, c1573, rfl⟩ := hst.len 2 rfl
                  obtain ⟨r1574, hr1575, hF⟩ := bind_some' hF
                  refine OW.fn rfl rfl rfl rfl (by kernel_rfl) (refs_Refs_Drop_ok _ (.pointer (some ⟨b35, 0, none⟩)) S1196 t453.1 (.slice a1572 ((([] : List Int) ++ p1)).length c1573) (([] : List Int) ++ p1) r1574 hr1575 (hst.part [0] rfl) (hst.rd 2 rfl (fun _ => rfl) [0] rfl (hst.len 2 rfl).1)) ?_
                  rintro e w1576 ⟨S1578, rfl, hst1577⟩
                  refine ⟨_, rfl, ?_⟩
                  have hst := hst.join (idx := [0]) (rest := [1, 2]) rfl hst1577
                  refine OW.pure 3 [(133, .bool (!((r1574.1 == 0) == o1197)))] (by kernel_rfl) ?_
                  refine OW.nil rfl ?_
                  refine QW.next ?_
                  rcases Bool.eq_false_or_eq_true ((!((r1574.1 == 0) == o1197))) with hc1579 | hc1579
                  · have hF := ite_t hF hc1579
                    refine CW.cond_t rfl hc1579 ?_
                    refine CW.seq ?_
                    refine CW.region ?_
                    refine OW.pure 1 [(4, .bool false)] (by kernel_rfl) ?_
                    refine OW.nil rfl ?_
                    refine QW.next ?_
                    refine CW.ret ?_
                    refine QW.then_ret ?_
                    obtain rfl := Option.some.inj hF
                    refine QW.ret1 rfl rfl ?_
                    exact ⟨rfl, hst.keep [] rfl⟩
                  · have hF := ite_f hF hc1579
                    refine CW.cond_f rfl hc1579 ?_
                    refine CW.skip ?_
                    refine QW.next ?_
                    refine CW.seq ?_
                    refine CW.seq ?_
                    refine CW.region ?_
                    refine OW.pure 1 [(15, .int .i64 0)] (by kernel_rfl) ?_
                    refine OW.nil rfl ?_
                    refine QW.next ?_
                    obtain ⟨o1675, ho1676, hF⟩ := bind_some' hF
                    refine CW.cutK (fun a w1 => ∃ (t1677 : refs_Refs) (S1674 : List Nat), o1675 = .inl t1677 ∧ Rep 217 [(5, .pointer (some ⟨b35, 0, none⟩)), (7, .pointer (some ⟨b55, 0, none⟩))] a ∧ St w (fp []) w1 [itI R_t24 [.pointer (some ⟨b35, 0, none⟩)] S1578 r1574.2, itI R_t24 [.pointer (some ⟨b55, 0, none⟩)] S1674 t1677]) ?_ ?_
                    · refine CW.block ?_
                      refine CW.loop (fun n a w1 => ∃ (s1741 : refs_Refs × Int) (S1742 : List Nat), Rep 217 [(1, .slice a5 (p1).length c6), (5, .pointer (some ⟨b35, 0, none⟩)), (7, .pointer (some ⟨b55, 0, none⟩)), (10, .bool o1197), (15, .int .i64 s1741.2)] a ∧ St w (fp []) w1 [itI R_t24 [.pointer (some ⟨b35, 0, none⟩)] S1578 r1574.2, itI R_t24 [.pointer (some ⟨b55, 0, none⟩)] S1742 s1741.1] ∧ loop (tappetlaw18_RefsMany_l4 p1 o1197) n s1741 = some o1675) fu (fun a ha => ⟨(t453.2, 0), S450, ha.agrees (by kernel_rfl), hst.keep [0, 1] rfl, ho1676⟩) ?_
                      rintro n1739 a w1 ⟨s1741, S1742, ha, hst, hl1740⟩
                      rcases n1739 with _ | n1739
                      · exact (loop_zero hl1740).elim
                      refine CW.go ?_ ha
                      refine CW.seq ?_
                      refine CW.seq ?_
                      refine CW.cutK (fun a w1 => Rep 217 [(1, .slice a5 (p1).length c6), (5, .pointer (some ⟨b35, 0, none⟩)), (7, .pointer (some ⟨b55, 0, none⟩)), (10, .bool o1197), (15, .int .i64 s1741.2), (140, .bool (decide (s1741.2 < (((p1).length) : Int)) && o1197))] a ∧ St w (fp []) w1 [itI R_t24 [.pointer (some ⟨b35, 0, none⟩)] S1578 r1574.2, itI R_t24 [.pointer (some ⟨b55, 0, none⟩)] S1742 s1741.1]) ?_ ?_
                      · refine CW.region ?_
                        refine OW.pure 5 [(138, .bool (decide (s1741.2 < (((p1).length) : Int))))] (by kernel_rfl) ?_
                        refine OW.split 138 rfl (fun hc1743 => ?_) (fun hc1743 => ?_)
                        · refine OW.pure 2 [(140, .bool o1197)] (by kernel_rfl) ?_
                          refine OW.nil rfl ?_
                          refine QW.say 140 (v := .bool (decide (s1741.2 < (((p1).length) : Int)) && o1197)) rfl (by first | (rw [hc1743]; done) | (rw [hc1743]; rfl) | simp [hc1743]) ?_
                          exact QW.meet (fun a ha => ⟨ha.agrees (by kernel_rfl), hst.keep [0, 1] rfl⟩)
                        · refine OW.pure 2 [(140, .bool false)] (by kernel_rfl) ?_
                          refine OW.nil rfl ?_
                          refine QW.say 140 (v := .bool (decide (s1741.2 < (((p1).length) : Int)) && o1197)) rfl (by first | (rw [hc1743]; done) | (rw [hc1743]; rfl) | simp [hc1743]) ?_
                          exact QW.meet (fun a ha => ⟨ha.agrees (by kernel_rfl), hst.keep [0, 1] rfl⟩)
                      · rintro a w1 ⟨ha, hst⟩
                        refine CW.go ?_ ha
                        rcases Bool.eq_false_or_eq_true ((decide (s1741.2 < (((p1).length) : Int)) && o1197)) with hc1744 | hc1744
                        · have hl1740 := ite_t hl1740 hc1744
                          refine CW.cond_t rfl hc1744 ?_
                          refine CW.skip ?_
                          refine QW.next ?_
                          refine CW.seq ?_
                          refine CW.block ?_
                          refine CW.seq ?_
                          refine CW.region ?_
                          refine OW.pure 3 [(143, .pointer (some ⟨b55, 0, none⟩)), (144, .slice a5 (p1).length c6), (145, .int .i64 s1741.2)] (by kernel_rfl) ?_
                          obtain ⟨x1758, hx1759, hl1740⟩ := bind_some' hl1740
                          obtain ⟨g1761, o1762, c1763, hv1760⟩ := h1.formv (fun _ => ⟨_, rfl⟩) hx1759
                          refine OW.idx 3 1 rfl rfl rfl rfl hv1760 rfl (idx_some hx1759).1 (idx_some hx1759).2.1 (by kernel_rfl) (by kernel_rfl) ?_
                          refine OW.ld rfl rfl rfl rfl (by kernel_rfl) (h1.cellv hst hx1759 hv1760 0 _ rfl) ?_
                          refine OW.row (α := Int) (e := 3) (enc := encInt .i64) (sz := 1) hst rfl rfl rfl [x1758] rfl (fun _ => rfl) rfl rfl (fun _ => by kernel_rfl) ?_
                          intro g1764 w1765 hst
                          obtain ⟨r1766, hr1767, hl1740⟩ := bind_some' hl1740
                          refine OW.fn rfl rfl rfl rfl (by kernel_rfl) (refs_Refs_Drop_ok _ (.pointer (some ⟨b55, 0, none⟩)) S1742 s1741.1 (.slice (some ⟨g1764, 0, none⟩) 1 1) ([x1758]) r1766 hr1767 (hst.part [1] rfl) (hst.rd 2 rfl (fun _ => rfl) [1] rfl (hst.len 2 rfl).1)) ?_
                          rintro e w1768 ⟨S1770, rfl, hst1769⟩
                          refine ⟨_, rfl, ?_⟩
                          have hst := hst.join (idx := [1]) (rest := [0, 2]) rfl hst1769
                          refine OW.pure 1 [(150, .bool (r1766.1 != 0))] (by kernel_rfl) ?_
                          refine OW.nil rfl ?_
                          refine QW.next ?_
                          rcases Bool.eq_false_or_eq_true ((r1766.1 != 0)) with hc1771 | hc1771
                          · have hl1740 := ite_t hl1740 hc1771
                            refine CW.cond_t rfl hc1771 ?_
                            refine CW.seq ?_
                            refine CW.region ?_
                            refine OW.pure 1 [(4, .bool false)] (by kernel_rfl) ?_
                            refine OW.nil rfl ?_
                            refine QW.next ?_
                            refine CW.ret ?_
                            refine QW.block_ret ?_
                            refine QW.then_ret ?_
                            refine QW.then_ret ?_
                            refine QW.block_ret ?_
                            refine QW.then_ret ?_
                            obtain rfl := Option.some.inj hl1740
                            obtain rfl := Option.some.inj hF
                            refine QW.ret1 rfl rfl ?_
                            exact ⟨rfl, hst.keep [] rfl⟩
                          · have hl1740 := ite_f hl1740 hc1771
                            refine CW.cond_f rfl hc1771 ?_
                            refine CW.skip ?_
                            refine QW.block_normal ?_
                            refine QW.next ?_
                            refine CW.region ?_
                            refine OW.pure 3 [(15, .int .i64 (w64 (s1741.2 + 1)))] (by kernel_rfl) ?_
                            refine OW.nil rfl ?_
                            exact QW.meet (fun a ha => ⟨n1739, Nat.lt_succ_self _, (r1766.2, w64 (s1741.2 + 1)), S1770, ha.agrees (by kernel_rfl), hst.keep [1, 0] rfl, hl1740⟩)
                        · have hl1740 := ite_f hl1740 hc1744
                          refine CW.cond_f rfl hc1744 ?_
                          refine CW.exit ?_
                          refine QW.then_exit ?_
                          refine QW.then_exit ?_
                          refine QW.block_here ?_
                          obtain rfl := Option.some.inj hl1740
                          exact QW.meet (fun a ha => ⟨s1741.1, S1742, rfl, ha.agrees (by kernel_rfl), hst.keep [0, 1] rfl⟩)
                    · rintro a w1 ⟨t1677, S1674, rfl, ha, hst⟩
                      refine CW.go ?_ ha
                      refine CW.seq ?_
                      refine CW.seq ?_
                      refine CW.region ?_
                      refine OW.pure 1 [(16, .int .i64 0)] (by kernel_rfl) ?_
                      refine OW.nil rfl ?_
                      refine QW.next ?_
                      obtain ⟨o4339, ho4340, hF⟩ := bind_some' hF
                      refine CW.cutK (fun a w1 => ∃ (t4341 : Unit), o4339 = .inl t4341 ∧ Rep 217 [] a ∧ St w (fp []) w1 []) ?_ ?_
                      · refine CW.block ?_
                        refine CW.loop (fun n a w1 => ∃ (i6055 : Nat) (s6052 : Unit) (S6053 : List Nat) (S6054 : List Nat), i6055 + n = 4 ∧ Rep 217 [(5, .pointer (some ⟨b35, 0, none⟩)), (7, .pointer (some ⟨b55, 0, none⟩)), (16, .int .i64 (i6055 : Int))] a ∧ St w (fp []) w1 [itI R_t24 [.pointer (some ⟨b35, 0, none⟩)] S6053 r1574.2, itI R_t24 [.pointer (some ⟨b55, 0, none⟩)] S6054 t1677] ∧ forN (tappetlaw18_RefsMany_l5 r1574 t1677) (fun (s6052 : Unit) => (.inl ())) n i6055 s6052 = some o4339) 4 (fun a ha => ⟨0, (), S1578, S1674, Nat.zero_add _, ha.agrees (by kernel_rfl), hst.keep [0, 1] rfl, ho4340⟩) ?_
                        rintro n6050 a w1 ⟨i6055, s6052, S6053, S6054, hi6056, ha, hst, hl6051⟩
                        refine CW.go ?_ ha
                        refine CW.seq ?_
                        refine CW.seq ?_
                        refine CW.region ?_
                        refine OW.pure 2 [(152, .bool (decide ((i6055 : Int) < 4)))] (by kernel_rfl) ?_
                        refine OW.nil rfl ?_
                        refine QW.next ?_
                        rcases Bool.eq_false_or_eq_true (decide ((i6055 : Int) < 4)) with hc6057 | hc6057
                        · rcases n6050 with _ | n6050
                          · exact (cnt0 hi6056 hc6057).elim
                          refine CW.cond_t rfl hc6057 ?_
                          refine CW.skip ?_
                          refine QW.next ?_
                          refine CW.seq ?_
                          refine CW.block ?_
                          refine CW.seq ?_
                          refine CW.region ?_
                          refine OW.pure 2 [(155, .pointer (some ⟨b35, 0, none⟩)), (156, .int .i64 (i6055 : Int))] (by kernel_rfl) ?_
                          obtain ⟨r6076, hr6077, hl6051⟩ := bind_some' hl6051
                          refine OW.fn rfl rfl rfl rfl (by kernel_rfl) (refs_Refs_Holders_ok _ (.pointer (some ⟨b35, 0, none⟩)) S6053 r1574.2 (i6055 : Int) r6076 hr6077 (hst.part [0] rfl)) ?_
                          rintro e w6078 ⟨S6080, v6081, rfl, hst6079⟩
                          refine ⟨_, rfl, ?_⟩
                          have hst := hst.join (idx := [0]) (rest := [1]) rfl hst6079
                          obtain ⟨l6082, a6083, c6084, rfl⟩ := hst.len 1 rfl
                          refine OW.pure 2 [(158, .pointer (some ⟨b55, 0, none⟩)), (159, .int .i64 (i6055 : Int))] (by kernel_rfl) ?_
                          obtain ⟨r6085, hr6086, hl6051⟩ := bind_some' hl6051
                          refine OW.fn rfl rfl rfl rfl (by kernel_rfl) (refs_Refs_Holders_ok _ (.pointer (some ⟨b55, 0, none⟩)) S6054 t1677 (i6055 : Int) r6085 hr6086 (hst.part [2] rfl)) ?_
                          rintro e w6087 ⟨S6089, v6090, rfl, hst6088⟩
                          refine ⟨_, rfl, ?_⟩
                          have hst := hst.join (idx := [2]) (rest := [0, 1]) rfl hst6088
                          obtain ⟨l6091, a6092, c6093, rfl⟩ := hst.len 1 rfl
                          refine OW.pure 2 [(17, .slice a6083 (r6076).length c6084), (18, .slice a6092 (r6085).length c6093)] (by kernel_rfl) ?_
                          refine OW.nil rfl ?_
                          refine QW.next ?_
                          refine CW.seq ?_
                          refine CW.seq ?_
                          refine CW.region ?_
                          refine OW.pure 2 [(161, .slice a6083 (r6076).length c6084), (162, .slice a6092 (r6085).length c6093)] (by kernel_rfl) ?_
                          obtain ⟨r6098, hr6099, hl6051⟩ := bind_some' hl6051
                          refine OW.fn rfl rfl rfl rfl (by kernel_rfl) (tappetlaw18_ints_ok _ (.slice a6083 (r6076).length c6084) r6076 (.slice a6092 (r6085).length c6093) r6085 r6098 hr6099 (hst.part [] rfl) (hst.rd 3 rfl (fun _ => rfl) [] rfl (hst.len 3 rfl).1) (hst.rd 1 rfl (fun _ => rfl) [] rfl (hst.len 1 rfl).1)) ?_
                          rintro e w6100 ⟨rfl, hst6101⟩
                          refine ⟨_, rfl, ?_⟩
                          have hst := hst.join (idx := []) (rest := [0, 1, 2, 3]) rfl hst6101
                          refine OW.pure 1 [(164, .bool (!r6098))] (by kernel_rfl) ?_
                          refine OW.nil rfl ?_
                          refine QW.next ?_
                          rcases Bool.eq_false_or_eq_true ((!r6098)) with hc6102 | hc6102
                          · have hl6051 := ite_t hl6051 hc6102
                            refine CW.cond_t rfl hc6102 ?_
                            refine CW.seq ?_
                            refine CW.region ?_
                            refine OW.pure 1 [(4, .bool false)] (by kernel_rfl) ?_
                            refine OW.nil rfl ?_
                            refine QW.next ?_
                            refine CW.ret ?_
                            refine QW.then_ret ?_
                            refine QW.block_ret ?_
                            refine QW.then_ret ?_
                            refine QW.then_ret ?_
                            refine QW.block_ret ?_
                            refine QW.then_ret ?_
                            obtain rfl := Option.some.inj hl6051
                            obtain rfl := Option.some.inj hF
                            refine QW.ret1 rfl rfl ?_
                            exact ⟨rfl, hst.keep [] rfl⟩
                          · have hl6051 := ite_f hl6051 hc6102
                            refine CW.cond_f rfl hc6102 ?_
                            refine CW.skip ?_
                            refine QW.next ?_
                            refine CW.seq ?_
                            refine CW.region ?_
                            refine OW.pure 1 [(19, .int .i64 0)] (by kernel_rfl) ?_
                            refine OW.nil rfl ?_
                            refine QW.next ?_
                            obtain ⟨o6505, ho6506, hl6051⟩ := bind_some' hl6051
                            refine CW.cutQ (fun a w1 => ∃ (t6507 : Unit) (S6504 : List Nat), o6505 = .inl t6507 ∧ Rep 217 [(5, .pointer (some ⟨b35, 0, none⟩)), (7, .pointer (some ⟨b55, 0, none⟩)), (16, .int .i64 (i6055 : Int))] a ∧ St w (fp []) w1 [itI R_t24 [.pointer (some ⟨b35, 0, none⟩)] S6504 r1574.2, itI R_t24 [.pointer (some ⟨b55, 0, none⟩)] S6089 t1677]) ?_ ?_
                            · refine CW.block ?_
                              refine CW.loop (fun n a w1 => ∃ (i6769 : Nat) (s6767 : Unit) (S6768 : List Nat), i6769 + n = (r6076).length ∧ Rep 217 [(5, .pointer (some ⟨b35, 0, none⟩)), (7, .pointer (some ⟨b55, 0, none⟩)), (16, .int .i64 (i6055 : Int)), (17, .slice a6083 (r6076).length c6084), (19, .int .i64 (i6769 : Int))] a ∧ St w (fp []) w1 [itI R_t24 [.pointer (some ⟨b35, 0, none⟩)] S6768 r1574.2, itI R_t24 [.pointer (some ⟨b55, 0, none⟩)] S6089 t1677, rowI (.slice a6083 (r6076).length c6084) 3 (encInt .i64) 1 r6076] ∧ forN (tappetlaw18_RefsMany_l6 r1574 i6055 r6076) (fun (s6767 : Unit) => (.inl ())) n i6769 s6767 = some o6505) ((r6076).length) (fun a ha => ⟨0, (), S6080, Nat.zero_add _, ha.agrees (by kernel_rfl), hst.keep [2, 0, 3] rfl, ho6506⟩) ?_
                              rintro n6765 a w1 ⟨i6769, s6767, S6768, hi6770, ha, hst, hl6766⟩
                              refine CW.go ?_ ha
                              refine CW.seq ?_
                              refine CW.seq ?_
                              refine CW.region ?_
                              refine OW.pure 4 [(168, .bool (decide ((i6769 : Int) < (((r6076).length) : Int))))] (by kernel_rfl) ?_
                              refine OW.nil rfl ?_
                              refine QW.next ?_
                              rcases Bool.eq_false_or_eq_true (decide ((i6769 : Int) < (((r6076).length) : Int))) with hc6771 | hc6771
                              · rcases n6765 with _ | n6765
                                · exact (cnt0 hi6770 hc6771).elim
                                refine CW.cond_t rfl hc6771 ?_
                                refine CW.skip ?_
                                refine QW.next ?_
                                refine CW.seq ?_
                                refine CW.block ?_
                                refine CW.seq ?_
                                refine CW.region ?_
                                refine OW.pure 3 [(172, .pointer (some ⟨b35, 0, none⟩)), (173, .slice a6083 (r6076).length c6084), (174, .int .i64 (i6769 : Int))] (by kernel_rfl) ?_
                                obtain ⟨x6787, hx6788, hl6766⟩ := bind_some' hl6766
                                obtain ⟨g6790, o6791, c6792, hv6789⟩ := hst.rowv 2 rfl hx6788
                                refine OW.idx 3 1 rfl rfl rfl rfl hv6789 rfl (idx_some hx6788).1 (idx_some hx6788).2.1 (by kernel_rfl) (by kernel_rfl) ?_
                                refine OW.ld rfl rfl rfl rfl (by kernel_rfl) (hst.rowc 2 rfl (fun _ => rfl) hx6788 hv6789 0 _ rfl) ?_
                                obtain ⟨r6793, hr6794, hl6766⟩ := bind_some' hl6766
                                refine OW.fn rfl rfl rfl rfl (by kernel_rfl) (refs_Refs_Held_ok _ (.pointer (some ⟨b35, 0, none⟩)) S6768 r1574.2 x6787 r6793 hr6794 (hst.part [0] rfl)) ?_
                                rintro e w6795 ⟨S6797, v6798, rfl, hst6796⟩
                                refine ⟨_, rfl, ?_⟩
                                have hst := hst.join (idx := [0]) (rest := [1, 2]) rfl hst6796
                                obtain ⟨l6799, a6800, c6801, rfl⟩ := hst.len 1 rfl
                                refine OW.pure 5 [(20, .slice a6800 (r6793.1).length c6801), (21, .bool r6793.2)] (by kernel_rfl) ?_
                                refine OW.nil rfl ?_
                                refine QW.next ?_
                                refine CW.seq ?_
                                refine CW.region ?_
                                refine OW.pure 1 [(22, .bool false)] (by kernel_rfl) ?_
                                refine OW.nil rfl ?_
                                refine QW.next ?_
                                refine CW.seq ?_
                                refine CW.seq ?_
                                refine CW.region ?_
                                refine OW.pure 1 [(23, .int .i64 0)] (by kernel_rfl) ?_
                                refine OW.nil rfl ?_
                                refine QW.next ?_
                                obtain ⟨o6837, ho6838, hl6766⟩ := bind_some' hl6766
                                refine CW.cutK (fun a w1 => Rep 217 [(5, .pointer (some ⟨b35, 0, none⟩)), (7, .pointer (some ⟨b55, 0, none⟩)), (16, .int .i64 (i6055 : Int)), (17, .slice a6083 (r6076).length c6084), (19, .int .i64 (i6769 : Int)), (21, .bool r6793.2), (22, .bool o6837)] a ∧ St w (fp []) w1 [itI R_t24 [.pointer (some ⟨b35, 0, none⟩)] S6797 r1574.2, itI R_t24 [.pointer (some ⟨b55, 0, none⟩)] S6089 t1677, rowI (.slice a6083 (r6076).length c6084) 3 (encInt .i64) 1 r6076]) ?_ ?_
                                · refine CW.block ?_
                                  refine CW.loop (fun n a w1 => ∃ (i6864 : Nat) (s6863 : Bool), i6864 + n = (r6793.1).length ∧ Rep 217 [(5, .pointer (some ⟨b35, 0, none⟩)), (7, .pointer (some ⟨b55, 0, none⟩)), (16, .int .i64 (i6055 : Int)), (17, .slice a6083 (r6076).length c6084), (19, .int .i64 (i6769 : Int)), (20, .slice a6800 (r6793.1).length c6801), (21, .bool r6793.2), (22, .bool s6863), (23, .int .i64 (i6864 : Int))] a ∧ St w (fp []) w1 [itI R_t24 [.pointer (some ⟨b35, 0, none⟩)] S6797 r1574.2, itI R_t24 [.pointer (some ⟨b55, 0, none⟩)] S6089 t1677, rowI (.slice a6083 (r6076).length c6084) 3 (encInt .i64) 1 r6076, rowI (.slice a6800 (r6793.1).length c6801) 3 (encInt .i64) 1 r6793.1] ∧ forN (tappetlaw18_RefsMany_l7 i6055 r6793) (fun (s6863 : Bool) => s6863) n i6864 s6863 = some o6837) ((r6793.1).length) (fun a ha => ⟨0, false, Nat.zero_add _, ha.agrees (by kernel_rfl), hst.keep [0, 2, 3, 1] rfl, ho6838⟩) ?_
                                  rintro n6861 a w1 ⟨i6864, s6863, hi6865, ha, hst, hl6862⟩
                                  refine CW.go ?_ ha
                                  refine CW.seq ?_
                                  refine CW.seq ?_
                                  refine CW.region ?_
                                  refine OW.pure 4 [(183, .bool (decide ((i6864 : Int) < (((r6793.1).length) : Int))))] (by kernel_rfl) ?_
                                  refine OW.nil rfl ?_
                                  refine QW.next ?_
                                  rcases Bool.eq_false_or_eq_true (decide ((i6864 : Int) < (((r6793.1).length) : Int))) with hc6866 | hc6866
                                  · rcases n6861 with _ | n6861
                                    · exact (cnt0 hi6865 hc6866).elim
                                    refine CW.cond_t rfl hc6866 ?_
                                    refine CW.skip ?_
                                    refine QW.next ?_
                                    refine CW.seq ?_
                                    refine CW.block ?_
                                    refine CW.region ?_
                                    refine OW.pure 2 [(187, .bool s6863)] (by kernel_rfl) ?_
                                    refine OW.split 187 rfl (fun hc6867 => ?_) (fun hc6867 => ?_)
                                    · have hl6862 := ite_t hl6862 hc6867
                                      refine OW.pure 8 [(22, .bool true)] (by kernel_rfl) ?_
                                      refine OW.nil rfl ?_
                                      refine QW.block_normal ?_
                                      refine QW.next ?_
                                      refine CW.region ?_
                                      refine OW.pure 3 [(23, .int .i64 (w64 ((i6864 : Int) + 1)))] (by kernel_rfl) ?_
                                      refine OW.nil rfl ?_
                                      refine QW.say 23 rfl (congrArg (Value.int .i64) (w64_cnt hc6866 l6799)) ?_
                                      exact QW.meet (fun a ha => ⟨n6861, Nat.lt_succ_self _, i6864 + 1, true, cnt_next hi6865, ha.agrees (by kernel_rfl), hst.keep [0, 1, 2, 3] rfl, hl6862⟩)
                                    · have hl6862 := ite_f hl6862 hc6867
                                      refine OW.pure 2 [(188, .slice a6800 (r6793.1).length c6801), (189, .int .i64 (i6864 : Int))] (by kernel_rfl) ?_
                                      obtain ⟨x6868, hx6869, hl6862⟩ := bind_some' hl6862
                                      obtain ⟨g6871, o6872, c6873, hv6870⟩ := hst.rowv 3 rfl hx6869
                                      refine OW.idx 3 1 rfl rfl rfl rfl hv6870 rfl (idx_some hx6869).1 (idx_some hx6869).2.1 (by kernel_rfl) (by kernel_rfl) ?_
                                      refine OW.ld rfl rfl rfl rfl (by kernel_rfl) (hst.rowc 3 rfl (fun _ => rfl) hx6869 hv6870 0 _ rfl) ?_
                                      refine OW.pure 4 [(22, .bool (x6868 == (i6055 : Int)))] (by kernel_rfl) ?_
                                      refine OW.nil rfl ?_
                                      refine QW.block_normal ?_
                                      refine QW.next ?_
                                      refine CW.region ?_
                                      refine OW.pure 3 [(23, .int .i64 (w64 ((i6864 : Int) + 1)))] (by kernel_rfl) ?_
                                      refine OW.nil rfl ?_
                                      refine QW.say 23 rfl (congrArg (Value.int .i64) (w64_cnt hc6866 l6799)) ?_
                                      exact QW.meet (fun a ha => ⟨n6861, Nat.lt_succ_self _, i6864 + 1, (x6868 == (i6055 : Int)), cnt_next hi6865, ha.agrees (by kernel_rfl), hst.keep [0, 1, 2, 3] rfl, hl6862⟩)
                                  · rcases n6861 with _ | n6861
                                    · refine CW.cond_f rfl hc6866 ?_
                                      refine CW.exit ?_
                                      refine QW.then_exit ?_
                                      refine QW.then_exit ?_
                                      refine QW.block_here ?_
                                      obtain rfl := Option.some.inj hl6862
                                      exact QW.meet (fun a ha => ⟨ha.agrees (by kernel_rfl), hst.keep [0, 1, 2] rfl⟩)
                                    · exact (cnt1 hi6865 hc6866).elim
                                · rintro a w1 ⟨ha, hst⟩
                                  refine CW.go ?_ ha
                                  refine CW.seq ?_
                                  obtain ⟨o6891, ho6892, hl6766⟩ := bind_some' hl6766
                                  refine CW.cutK (fun a w1 => Rep 217 [(5, .pointer (some ⟨b35, 0, none⟩)), (7, .pointer (some ⟨b55, 0, none⟩)), (16, .int .i64 (i6055 : Int)), (17, .slice a6083 (r6076).length c6084), (19, .int .i64 (i6769 : Int)), (216, .bool o6891)] a ∧ St w (fp []) w1 [itI R_t24 [.pointer (some ⟨b35, 0, none⟩)] S6797 r1574.2, itI R_t24 [.pointer (some ⟨b55, 0, none⟩)] S6089 t1677, rowI (.slice a6083 (r6076).length c6084) 3 (encInt .i64) 1 r6076]) ?_ ?_
                                  · refine CW.still (by kernel_rfl) (by kernel_rfl) ?_
                                    intro w6893 hch6894
                                    have hst := hst.same hch6894
                                    refine OS.pure 3 [(197, .bool (!r6793.2))] rfl (by kernel_rfl) ?_
                                    refine OS.split 197 rfl (fun hc6895 => ?_) (fun hc6895 => ?_)
                                    · have ho6892 := ite_t ho6892 hc6895
                                      refine OS.pure 19 [(216, .bool true)] rfl (by kernel_rfl) ?_
                                      refine OS.fin rfl ?_
                                      obtain rfl := Option.some.inj ho6892
                                      exact QW.meet (fun a ha => ⟨ha.agrees (by kernel_rfl), hst.keep [0, 1, 2] rfl⟩)
                                    · have ho6892 := ite_f ho6892 hc6895
                                      refine OS.pure 4 [(201, .bool (!o6837))] rfl (by kernel_rfl) ?_
                                      refine OS.split 201 rfl (fun hc6896 => ?_) (fun hc6896 => ?_)
                                      · have ho6892 := ite_t ho6892 hc6896
                                        refine OS.pure 15 [(216, .bool true)] rfl (by kernel_rfl) ?_
                                        refine OS.fin rfl ?_
                                        obtain rfl := Option.some.inj ho6892
                                        exact QW.meet (fun a ha => ⟨ha.agrees (by kernel_rfl), hst.keep [0, 1, 2] rfl⟩)
                                      · have ho6892 := ite_f ho6892 hc6896
                                        refine OS.pure 3 [(204, .bool (decide ((i6769 : Int) > 0)))] rfl (by kernel_rfl) ?_
                                        refine OS.split 204 rfl (fun hc6897 => ?_) (fun hc6897 => ?_)
                                        · have ho6892 := ite_t ho6892 hc6897
                                          refine OS.pure 3 [(205, .slice a6083 (r6076).length c6084), (207, .int .i64 (w64 ((i6769 : Int) - 1)))] rfl (by kernel_rfl) ?_
                                          obtain ⟨x6898, hx6899, ho6892⟩ := bind_some' ho6892
                                          obtain ⟨g6901, o6902, c6903, hv6900⟩ := hst.rowv 2 rfl hx6899
                                          refine OS.idx 3 1 rfl rfl rfl rfl rfl hv6900 rfl (idx_some hx6899).1 (idx_some hx6899).2.1 (by kernel_rfl) (by kernel_rfl) ?_
                                          refine OS.ld rfl rfl rfl rfl rfl (by kernel_rfl) (hst.rowc 2 rfl (fun _ => rfl) hx6899 hv6900 0 _ rfl) ?_
                                          refine OS.pure 2 [(210, .slice a6083 (r6076).length c6084), (211, .int .i64 (i6769 : Int))] rfl (by kernel_rfl) ?_
                                          obtain ⟨g6905, o6906, c6907, hv6904⟩ := hst.rowv 2 rfl hx6788
                                          refine OS.idx 3 1 rfl rfl rfl rfl rfl hv6904 rfl (idx_some hx6788).1 (idx_some hx6788).2.1 (by kernel_rfl) (by kernel_rfl) ?_
                                          refine OS.ld rfl rfl rfl rfl rfl (by kernel_rfl) (hst.rowc 2 rfl (fun _ => rfl) hx6788 hv6904 0 _ rfl) ?_
                                          refine OS.pure 3 [(216, .bool (decide (x6898 ≥ x6787)))] rfl (by kernel_rfl) ?_
                                          refine OS.fin rfl ?_
                                          obtain rfl := Option.some.inj ho6892
                                          exact QW.meet (fun a ha => ⟨ha.agrees (by kernel_rfl), hst.keep [0, 1, 2] rfl⟩)
                                        · have ho6892 := ite_f ho6892 hc6897
                                          refine OS.pure 12 [(216, .bool false)] rfl (by kernel_rfl) ?_
                                          refine OS.fin rfl ?_
                                          obtain rfl := Option.some.inj ho6892
                                          exact QW.meet (fun a ha => ⟨ha.agrees (by kernel_rfl), hst.keep [0, 1, 2] rfl⟩)
                                  · rintro a w1 ⟨ha, hst⟩
                                    refine CW.go ?_ ha
                                    rcases Bool.eq_false_or_eq_true (o6891) with hc6908 | hc6908
                                    · have hl6766 := ite_t hl6766 hc6908
                                      refine CW.cond_t rfl hc6908 ?_
                                      refine CW.seq ?_
                                      refine CW.region ?_
                                      refine OW.pure 1 [(4, .bool false)] (by kernel_rfl) ?_
                                      refine OW.nil rfl ?_
                                      refine QW.next ?_
                                      refine CW.ret ?_
                                      refine QW.block_ret ?_
                                      refine QW.then_ret ?_
                                      refine QW.then_ret ?_
                                      refine QW.block_ret ?_
                                      refine QW.then_ret ?_
                                      refine QW.block_ret ?_
                                      refine QW.then_ret ?_
                                      refine QW.then_ret ?_
                                      refine QW.block_ret ?_
                                      refine QW.then_ret ?_
                                      obtain rfl := Option.some.inj hl6766
                                      obtain rfl := Option.some.inj hl6051
                                      obtain rfl := Option.some.inj hF
                                      refine QW.ret1 rfl rfl ?_
                                      exact ⟨rfl, hst.keep [] rfl⟩
                                    · have hl6766 := ite_f hl6766 hc6908
                                      refine CW.cond_f rfl hc6908 ?_
                                      refine CW.skip ?_
                                      refine QW.block_normal ?_
                                      refine QW.next ?_
                                      refine CW.region ?_
                                      refine OW.pure 3 [(19, .int .i64 (w64 ((i6769 : Int) + 1)))] (by kernel_rfl) ?_
                                      refine OW.nil rfl ?_
                                      refine QW.say 19 rfl (congrArg (Value.int .i64) (w64_cnt hc6771 l6082)) ?_
                                      exact QW.meet (fun a ha => ⟨n6765, Nat.lt_succ_self _, i6769 + 1, (), S6797, cnt_next hi6770, ha.agrees (by kernel_rfl), hst.keep [0, 1, 2] rfl, hl6766⟩)
                              · rcases n6765 with _ | n6765
                                · refine CW.cond_f rfl hc6771 ?_
                                  refine CW.exit ?_
                                  refine QW.then_exit ?_
                                  refine QW.then_exit ?_
                                  refine QW.block_here ?_
                                  obtain rfl := Option.some.inj hl6766
                                  exact QW.meet (fun a ha => ⟨(), S6768, rfl, ha.agrees (by kernel_rfl), hst.keep [0, 1] rfl⟩)
                                · exact (cnt1 hi6770 hc6771).elim
                            · rintro a w1 ⟨t6507, S6504, rfl, ha, hst⟩
                              refine QW.go ?_ ha
                              refine QW.block_normal ?_
                              refine QW.next ?_
                              refine CW.region ?_
                              refine OW.pure 3 [(16, .int .i64 (w64 ((i6055 : Int) + 1)))] (by kernel_rfl) ?_
                              refine OW.nil rfl ?_
                              refine QW.say 16 rfl (congrArg (Value.int .i64) (w64_cnt hc6057 (by decide))) ?_
                              exact QW.meet (fun a ha => ⟨n6050, Nat.lt_succ_self _, i6055 + 1, (), S6504, S6089, cnt_next hi6056, ha.agrees (by kernel_rfl), hst.keep [0, 1] rfl, hl6051⟩)
                        · rcases n6050 with _ | n6050
                          · refine CW.cond_f rfl hc6057 ?_
                            refine CW.exit ?_
                            refine QW.then_exit ?_
                            refine QW.then_exit ?_
                            refine QW.block_here ?_
                            obtain rfl := Option.some.inj hl6051
                            exact QW.meet (fun a ha => ⟨(), rfl, ha.agrees (by kernel_rfl), hst.keep [] rfl⟩)
                          · exact (cnt1 hi6056 hc6057).elim
                      · rintro a w1 ⟨t4341, rfl, ha, hst⟩
                        refine CW.go ?_ ha
                        refine CW.seq ?_
                        refine CW.region ?_
                        refine OW.pure 1 [(4, .bool true)] (by kernel_rfl) ?_
                        refine OW.nil rfl ?_
                        refine QW.next ?_
                        refine CW.ret ?_
                        obtain rfl := Option.some.inj hF
                        refine QW.ret1 rfl rfl ?_
                        exact ⟨rfl, hst.keep [] rfl⟩
      · have hF := ocase_none hF he54
        refine ⟨_, rfl, ?_⟩
        have hst := hst.join (idx := []) (rest := [0]) rfl hst49
        refine OW.pure 5 [(7, .pointer none), (8, .int .i64 r46.2)] (by kernel_rfl) ?_
        refine OW.nil rfl ?_
        refine QW.next ?_
        refine CW.seq ?_
        refine CW.seq ?_
        refine CW.region ?_
        refine OW.pure 14 [(47, .bool true)] (by kernel_rfl) ?_
        refine OW.nil rfl ?_
        refine QW.next ?_
        refine CW.cond_t rfl rfl ?_
        refine CW.seq ?_
        refine CW.region ?_
        refine OW.pure 1 [(4, .bool false)] (by kernel_rfl) ?_
        refine OW.nil rfl ?_
        refine QW.next ?_
        refine CW.ret ?_
        refine QW.then_ret ?_
        obtain rfl := Option.some.inj hF
        refine QW.ret1 rfl rfl ?_
        exact ⟨rfl, hst.keep [] rfl⟩
    · have hF := ocase_none hF he34
      refine ⟨_, rfl, ?_⟩
      have hst := hst.join (idx := []) (rest := []) rfl hst29
      refine OW.pure 5 [(5, .pointer none), (6, .int .i64 r26.2)] (by kernel_rfl) ?_
      refine OW.nil rfl ?_
      refine QW.next ?_
      refine CW.seq ?_
      refine CW.region ?_
      obtain ⟨r6919, hr6920, hF⟩ := bind_some' hF
      refine OW.fn rfl rfl rfl rfl (by kernel_rfl) (refs_New_ok _ 4 r6919 hr6920 (hst.part [] rfl)) ?_
      rintro e w6921 (⟨k6923, v6925, S6926, he6924, rfl, hst6922⟩ | ⟨he6927, rfl, hst6922⟩)
      · have hF := ocase_some hF he6924
        refine ⟨_, rfl, ?_⟩
        have hst := hst.join (idx := []) (rest := []) rfl hst6922
        obtain ⟨b6928, rfl⟩ := hst.fptr 0 rfl
        refine OW.pure 5 [(7, .pointer (some ⟨b6928, 0, none⟩)), (8, .int .i64 r6919.2)] (by kernel_rfl) ?_
        refine OW.nil rfl ?_
        refine QW.next ?_
        refine CW.seq ?_
        refine CW.seq ?_
        refine CW.region ?_
        refine OW.pure 14 [(47, .bool true)] (by kernel_rfl) ?_
        refine OW.nil rfl ?_
        refine QW.next ?_
        refine CW.cond_t rfl rfl ?_
        refine CW.seq ?_
        refine CW.region ?_
        refine OW.pure 1 [(4, .bool false)] (by kernel_rfl) ?_
        refine OW.nil rfl ?_
        refine QW.next ?_
        refine CW.ret ?_
        refine QW.then_ret ?_
        obtain rfl := Option.some.inj hF
        refine QW.ret1 rfl rfl ?_
        exact ⟨rfl, hst.keep [] rfl⟩
      · have hF := ocase_none hF he6927
        refine ⟨_, rfl, ?_⟩
        have hst := hst.join (idx := []) (rest := []) rfl hst6922
        refine OW.pure 5 [(7, .pointer none), (8, .int .i64 r6919.2)] (by kernel_rfl) ?_
        refine OW.nil rfl ?_
        refine QW.next ?_
        refine CW.seq ?_
        refine CW.seq ?_
        refine CW.region ?_
        refine OW.pure 14 [(47, .bool true)] (by kernel_rfl) ?_
        refine OW.nil rfl ?_
        refine QW.next ?_
        refine CW.cond_t rfl rfl ?_
        refine CW.seq ?_
        refine CW.region ?_
        refine OW.pure 1 [(4, .bool false)] (by kernel_rfl) ?_
        refine OW.nil rfl ?_
        refine QW.next ?_
        refine CW.ret ?_
        refine QW.then_ret ?_
        obtain rfl := Option.some.inj hF
        refine QW.ret1 rfl rfl ?_
        exact ⟨rfl, hst.keep [] rfl⟩


end Go.Proofs.Ytbhbegbnmndhdaa
